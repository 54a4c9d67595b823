import Derived.Test.YtlfohdkfpdkhhaaGreatDoorWF
import Derived.SizedLaws
/-
 Lemmas of the claim. No condition but those that each names.
-/
set_option linter.unusedSimpArgs false
set_option linter.unusedVariables false
set_option maxHeartbeats 8000000
set_option linter.unusedSectionVars false
namespace Go.Proofs.YtlfohdkfpdkhhaaGreatDoor
open Abs Facts Tr
attribute [local irreducible] awp
set_option maxRecDepth 100000
theorem pc_OwnR (i : Idv) : PC Tryz.prog 35 [z1a i] (.bool (ztz i)) := by
 refine z18 1 rfl rfl (z12 [] Tryz.func35 rfl (by decide +kernel) z0g (by decide +kernel) (by simp [Tryz.ntmps35]) ?_)
 show awp _ _ (Code.seq _ _) _ _
 repeat' (first | ((refine zqh fun K hK => ?_); (simp (disch := omega) only [go_sem, Nat.reduceBEq, ↓reduceIte, reduceCtorEq, Nat.reduceAdd])) | refine nxt ?_ | refine zqu (by (simp (disch := omega) only [go_sem]); rfl) rfl ?_ | (refine hK _ ?_; clear hK K) | (refine zqf (fun hb => ?_) (fun hb => ?_) <;> (have hb2 := hb; try simp only [z08] at hb2) <;> ((first | have hb3 := eq_false hb2 | have hb3 := eq_true hb2); (simp (disch := omega) only [go_sem, Nat.reduceBEq, ↓reduceIte, reduceCtorEq, Nat.reduceAdd, hb3]); clear hb hb3; (try (exfalso; omega)))))
 all_goals (refine z03 ?_; unfold ztz; simp_all)
theorem pc_MayE (t : T) (hz : szB t = true) (hc : cntT t <= 1000000) (hd : depT t <= 1000000) : PC Tryz.prog 12 [z0i t] (.bool (!(z0k t).any ztz && standsT t)) := by
 have c0 := zvj t hz (by omega)
 have c1 := z5m t hz (by omega) (by omega)
 have hil := z2u t
 refine z18 1 (by simp only [pureD.pureL, z01, Bool.and_self]) rfl (z12 [] Tryz.func12 rfl (by decide +kernel) z0g (by decide +kernel) (by simp [Tryz.ntmps12]) ?_)
 show awp _ _ (Code.seq _ _) _ _
 repeat' (first | refine nxt ?_ | ((first | refine zqh fun K hK => ?_ | refine zqs (c0) ?_); (simp (disch := omega) only [go_sem, Nat.reduceBEq, ↓reduceIte, Nat.reduceAdd, Nat.reduceLeDiff, z0i, z2f])) | (refine hK _ ?_; clear hK K))
 (refine z3r (fun mz st => ∃ (i : _), mz = (z0k t).length - i /\ st.t 1 = .ptr 0 0 /\ st.t 3 = z2f (z0k t) /\ st.t 4 = .int .i64 i /\ st.H 0 = some (.box 27 (z09 t)) /\ (i <= (z0k t).length) /\ (((z0k t).take i).any ztz = false)) ?_ ?_); rotate_left; (rintro mz st ⟨i, rfl, q1, q3, q4, qH0, qp0, qp1⟩); rotate_left
 ·(refine ⟨_, 0, rfl, ?_⟩); (simp (disch := omega) only [go_sem, Nat.reduceBEq, and_self, Int.natCast_zero, z2f, List.take_zero, List.any_nil])
 by_cases hi : i < (z0k t).length
 ·have c2 := pc_OwnR (z0k t)[i]
  have htk := List.take_succ_eq_append_getElem hi
  by_cases hw : ztz (z0k t)[i] = true
  ·have ha : (z0k t).any ztz = true := List.any_eq_true.2 ⟨_, List.getElem_mem hi, hw⟩
   rw [hw] at c2
   repeat' (first | refine nxt ?_ | ((first | refine zqh fun K hK => ?_ | refine zqs (c2) ?_); (simp (disch := omega) only [go_sem, Nat.reduceBEq, ↓reduceIte, reduceCtorEq, Nat.reduceAdd, q3, q4, z2f, z1a])) | ((first | refine zqd _ rfl (fun hc => ?_) (fun hc => ?_) | refine zqm _ rfl (fun hc => ?_) (fun hc => ?_)) <;> (first | (cases hc; done) | ((try simp only [z08] at hc); (try (exfalso; omega))))) | refine zqu (by (simp (disch := omega) only [go_sem]); rfl) rfl ?_ | (refine hK _ ?_; clear hK K))
   exact z03 (by rw [ha]; rfl)
  ·rw [Bool.not_eq_true] at hw
   rw [hw] at c2
   repeat' (first | refine nxt ?_ | ((first | refine zqh fun K hK => ?_ | refine zqr fun K hK => ?_ | refine zqs (c2) ?_); (simp (disch := omega) only [go_sem, Nat.reduceBEq, ↓reduceIte, reduceCtorEq, Nat.reduceAdd, q3, q4, z2f, z1a])) | ((first | refine zqd _ rfl (fun hc => ?_) (fun hc => ?_) | refine zqm _ rfl (fun hc => ?_) (fun hc => ?_)) <;> (first | (cases hc; done) | ((try simp only [z08] at hc); (try (exfalso; omega))))) | (refine hK _ ?_; clear hK K))
   (refine Exists.intro _ (And.intro ?_ ⟨i + 1, rfl, ?_⟩)); rotate_left; (simp (disch := omega) only [go_sem, Nat.reduceBEq, q1, q3, q4, qH0, true_and, Int.natCast_add, Int.natCast_one, htk, List.any_append, List.any_cons, List.any_nil, hw]); rotate_left
   all_goals first | omega | exact ⟨by omega, qp1⟩
 ·have hie : i = (z0k t).length := by omega
  subst hie
  rw [List.take_length] at qp1
  rw [qp1]
  repeat' (first | refine nxt ?_ | ((first | refine zqh fun K hK => ?_ | refine zqs (c1) ?_); (simp (disch := omega) only [go_sem, Nat.reduceBEq, ↓reduceIte, Nat.reduceAdd, Nat.reduceLeDiff, q1, q3, q4, qH0, z2f])) | ((refine zqd _ rfl (fun hc => ?_) (fun hc => ?_)) <;> (((try simp only [z08] at hc); (try (exfalso; omega))))) | refine zqz ?_ | refine zqu (by (simp (disch := omega) only [go_sem]); rfl) rfl ?_ | (refine hK _ ?_; clear hK K))
  exact z03 (by simp)
def fewO (o : Deed) : Bool := decide (o.words.length <= 20) && decide (o.label.size <= 40) && zxc o.unit 12 && o.words.all fun w => decide (w.size <= 60)
theorem pc_FewE (l : List Deed) (hl : l.length <= 606627104963) (hw : ∀ o ∈ l, o.words.length <= maxLen /\ o.label.size <= maxLen /\ (∀ w ∈ o.words, w.size <= maxLen) /\ fitB o.unit = true) : PC Tryz.prog 33 [z2r l] (.bool (l.all fewO)) := by
 refine z18 1 (by simp only [pureD.pureL, z85, Bool.and_self]) rfl (z12 [] Tryz.func33 rfl (by decide +kernel) z0g (by decide +kernel) (by simp [Tryz.ntmps33]) ?_)
 show awp _ _ (Code.seq _ _) _ _
 repeat' (first | refine nxt ?_ | ((refine zqh fun K hK => ?_); (simp (disch := omega) only [go_sem, z2r])) | (refine hK _ ?_; clear hK K))
 (refine z3r (fun mz st => ∃ (i : _), mz = l.length - i /\ st.t 0 = z2r l /\ st.t 3 = .int .i64 i /\ (i <= l.length) /\ ((l.take i).all fewO = true)) ?_ ?_); rotate_left; (rintro mz st ⟨i, rfl, q0, q3, qp0, qp1⟩); rotate_left
 ·(refine ⟨_, 0, rfl, ?_⟩); (simp (disch := omega) only [go_sem, Nat.reduceBEq, and_self, Int.natCast_zero, z2r, List.take_zero, List.all_nil])
 by_cases hi : i < l.length
 ·obtain ⟨hw1, hw2, hw3, hw4⟩ := hw l[i] (List.getElem_mem hi)
  have c1 := pc_Few l[i].unit hw4 12 (by decide) (by decide)
  have htk := List.take_succ_eq_append_getElem hi
  unfold maxLen at hw1 hw2
  have hfl : fewO l[i] = false -> false = l.all fewO := fun h => (List.all_eq_false.2 ⟨l[i], List.getElem_mem hi, by rw [h]; simp⟩).symm
  have hxo : ∀ x ∈ l, fewO x = fewO x := fun _ _ => rfl
  repeat' (first | refine nxt ?_ | ((first | refine zqh fun K hK => ?_ | refine zqs (c1) ?_); (simp (disch := omega) only [go_sem, Nat.reduceBEq, ↓reduceIte, reduceCtorEq, Nat.reduceAdd, q0, q3, z2r, z3h])) | ((refine zqd _ rfl (fun hc => ?_) (fun hc => ?_)) <;> (first | (cases hc; done) | ((try simp only [z08] at hc); (try (exfalso; omega))))) | refine zqu (by (simp (disch := omega) only [go_sem]); rfl) rfl ?_ | (refine hK _ ?_; clear hK K) | (refine zqf (fun hb => ?_) (fun hb => ?_) <;> (have hb2 := hb; try simp only [z08] at hb2) <;> ((first | have hb3 := eq_false hb2 | have hb3 := eq_true hb2); (simp (disch := omega) only [go_sem, Nat.reduceBEq, ↓reduceIte, reduceCtorEq, Nat.reduceAdd, Nat.reduceLeDiff, hb3, q0, q3, z2r, z3h]); clear hb hb3; (try (exfalso; omega)))))
  ·exact z03 (hfl (by unfold fewO; rw [hc]; simp))
  ·have d1 : decide (l[i].words.length <= 20) = true := decide_eq_true (by omega)
   have d2 : decide (l[i].label.size <= 40) = true := decide_eq_true (by omega)
   have hfo : fewO l[i] = l[i].words.all fun w => decide (w.size <= 60) := by unfold fewO; rw [d1, d2, hc]; simp
   (refine z3r (fun mz st => ∃ (j : _), mz = l[i].words.length - j /\ st.t 0 = z2r l /\ st.t 3 = .int .i64 i /\ st.t 4 = .int .i64 j /\ (j <= l[i].words.length) /\ (((l[i].words.take j).all fun w => decide (w.size <= 60)) = true)) ?_ ?_); rotate_left; (rintro mz st ⟨j, rfl, p0, p3, p4, pp0, pp1⟩); rotate_left
   ·(refine ⟨_, 0, rfl, ?_⟩); (simp (disch := omega) only [go_sem, Nat.reduceBEq, q0, q3, and_self, Int.natCast_zero, z2r, List.take_zero, List.all_nil])
   by_cases hj : j < l[i].words.length
   ·have hw5 := hw3 l[i].words[j] (List.getElem_mem hj)
    unfold maxLen at hw5
    have htj := List.take_succ_eq_append_getElem hj
    repeat' (first | refine nxt ?_ | ((first | refine zqh fun K hK => ?_ | refine zqr fun K hK => ?_); (simp (disch := omega) only [go_sem, Nat.reduceBEq, ↓reduceIte, reduceCtorEq, Nat.reduceAdd, p0, p3, p4, z2r, z3h, z2q])) | ((first | refine zqd _ rfl (fun hc => ?_) (fun hc => ?_) | refine zqm _ rfl (fun hc => ?_) (fun hc => ?_)) <;> (((try simp only [z08] at hc); (try (exfalso; omega))))) | refine zqu (by (simp (disch := omega) only [go_sem]); rfl) rfl ?_ | (refine hK _ ?_; clear hK K))
    ·exact z03 (hfl (by rw [hfo]; exact List.all_eq_false.2 ⟨_, List.getElem_mem hj, by simp; omega⟩))
    ·have d3 : decide (l[i].words[j].size <= 60) = true := decide_eq_true (by omega)
     (refine Exists.intro _ (And.intro ?_ ⟨j + 1, rfl, ?_⟩)); rotate_left; (simp (disch := omega) only [go_sem, Nat.reduceBEq, p0, p3, p4, true_and, and_true, Int.natCast_add, Int.natCast_one, htj, List.all_append, List.all_cons, List.all_nil, d3, pp1]); rotate_left
     all_goals omega
   ·have hje : j = l[i].words.length := by omega
    subst hje
    rw [List.take_length] at pp1
    repeat' (first | refine nxt ?_ | ((first | refine zqh fun K hK => ?_ | refine zqr fun K hK => ?_); (simp (disch := omega) only [go_sem, Nat.reduceBEq, ↓reduceIte, reduceCtorEq, Nat.reduceAdd, p0, p3, p4, z2r, z3h, z2q])) | ((refine zqd _ rfl (fun hc => ?_) (fun hc => ?_)) <;> (((try simp only [z08] at hc); (try (exfalso; omega))))) | refine zqz ?_ | (refine hK _ ?_; clear hK K))
    (refine Exists.intro _ (And.intro ?_ ⟨i + 1, rfl, ?_⟩)); rotate_left; (simp (disch := omega) only [go_sem, Nat.reduceBEq, true_and, Int.natCast_add, Int.natCast_one, p0, p3, htk, List.all_append, List.all_cons, List.all_nil, hfo, pp1]); rotate_left
    all_goals first | omega | exact ⟨by omega, qp1⟩
  ·exact z03 (hfl (by unfold fewO; rw [decide_eq_false (show ¬ l[i].label.size <= 40 by omega)]; simp))
  ·exact z03 (hfl (by unfold fewO; rw [decide_eq_false (show ¬ l[i].words.length <= 20 by omega)]; simp))
 ·have hie : i = l.length := by omega
  subst hie
  rw [List.take_length] at qp1
  rw [qp1]
  repeat' (first | refine nxt ?_ | ((refine zqh fun K hK => ?_); (simp (disch := omega) only [go_sem, Nat.reduceBEq, ↓reduceIte, q0, q3, z2r])) | ((refine zqd _ rfl (fun hc => ?_) (fun hc => ?_)) <;> (((try simp only [z08] at hc); (try (exfalso; omega))))) | refine zqz ?_ | refine zqu (by (simp (disch := omega) only [go_sem]); rfl) rfl ?_ | (refine hK _ ?_; clear hK K))
  exact z03 rfl
end Go.Proofs.YtlfohdkfpdkhhaaGreatDoor
namespace Go.Proofs.YtlfohdkfpdkhhaaGreatDoor
open Abs Facts Tr
attribute [local irreducible] awp
set_option maxRecDepth 100000
structure Ky where
 k : Int
 o : Deed
def zg2 (p : Ky) : List D := .int .u8 p.k :: z1n p.o
def zkm (p : Ky) : D := .agg (zg2 p)
def zb8 (l : List Ky) : D := .rsl false 19 (l.map zkm)
theorem zdo (p : Ky) : (zg2 p).length = 19 := by unfold zg2; rw [List.length_cons, z44]
theorem zg3 (p : Ky) : pureD (zkm p) = true := by
 show pureD.pureL (.int .u8 p.k :: z1n p.o) = true
 simp only [pureD.pureL, z6w, pureD, Bool.and_self]
theorem zdp (l : List Ky) : pureD (zb8 l) = true := z0s (f := zkm) zg3 l
theorem zlg (p : Ky) : List.take 18 (List.drop 1 (zg2 p)) = z1n p.o := by
 show List.take 18 (z1n p.o) = _
 exact zn5 _
theorem pc_fewL (t : T) (hf : fitB t = true) (l : List Ky) (hl : l.length <= 606627104963) (hw : ∀ p ∈ l, p.o.words.length <= maxLen /\ p.o.label.size <= maxLen /\ (∀ w ∈ p.o.words, w.size <= maxLen) /\ fitB p.o.unit = true) :
  PC Tryz.prog 11 [z0i t, zb8 l] (.bool (decide (l.length <= 16) && zxc t 40 && (l.map (·.o)).all fewO)) := by
 have c0 := pc_Few t hf 40 (by decide) (by decide)
 have c1 := pc_FewE (l.map (·.o)) (by rw [List.length_map]; exact hl) (fun o ho => by
  obtain ⟨p, hp, rfl⟩ := List.mem_map.1 ho
  exact hw p hp)
 refine z18 2 (by simp only [pureD.pureL, z01, zdp, Bool.and_self]) rfl (z12 [7] Tryz.func11 rfl (by decide +kernel) z0g (by decide +kernel) (by simp [Tryz.ntmps11]) ?_)
 show awp _ _ (Code.seq _ _) _ _
 repeat' (first | refine nxt ?_ | ((refine zqh fun K hK => ?_); (simp (disch := omega) only [go_sem, Nat.reduceBEq, ↓reduceIte, reduceCtorEq, Nat.reduceAdd, Nat.reduceMul, z0i])) | (refine hK _ ?_; clear hK K))
 (refine z3r (fun mz st => ∃ (i : _), mz = l.length - i /\ st.t 1 = zb8 l /\ st.t 2 = .ptr 0 0 /\ st.t 5 = .osl 1 i /\ st.t 6 = .int .i64 i /\ st.H 0 = some (.box 27 (z09 t)) /\ st.H 1 = some (.row 32 i ((l.take i).flatMap fun p => z1n p.o)) /\ (i <= l.length) /\ (2 <= st.nx)) ?_ ?_); rotate_left; (rintro mz st ⟨i, rfl, q1, q2, q5, q6, qH0, qH1, qp0, qp1⟩); rotate_left
 ·(refine ⟨_, 0, rfl, ?_⟩); (simp (disch := omega) only [go_sem, Nat.reduceBEq, Nat.reduceLeDiff, and_self, Int.natCast_zero, List.flatMap_nil, zb8])
 by_cases hi : i < l.length
 ·have htk := List.take_succ_eq_append_getElem hi
  repeat' (first | refine nxt ?_ | ((first | refine zqh fun K hK => ?_ | refine zqr fun K hK => ?_); (simp (disch := omega) only [go_sem, Nat.reduceBEq, ↓reduceIte, reduceCtorEq, Nat.reduceAdd, Nat.reduceMul, Nat.reduceLeDiff, q1, q5, q6, qH1, zb8, zkm, zdo, zlg])) | ((refine zqd _ rfl (fun hc => ?_) (fun hc => ?_)) <;> (((try simp only [z08] at hc); (try (exfalso; omega))))) | (refine hK _ ?_; clear hK K))
  (refine Exists.intro _ (And.intro ?_ ⟨i + 1, rfl, ?_⟩)); rotate_left; (simp (disch := omega) only [go_sem, Nat.reduceBEq, q1, q2, q5, q6, qH0, qH1, true_and, Int.natCast_add, Int.natCast_one, List.flatMap_append, List.flatMap_cons, List.flatMap_nil, List.append_nil, htk]); rotate_left
  all_goals first | omega | exact ⟨by omega, by omega⟩
 ·have hie : i = l.length := by omega
  subst hie
  rw [List.take_length] at qH1
  have hfl : (l.flatMap fun p => z1n p.o) = (l.map (·.o)).flatMap z1n := by rw [List.flatMap_map]
  rw [hfl] at qH1
  have u0 : pureD.pureL ((l.map (·.o)).flatMap z1n) = true := z86 _
  have v0 : z22 true 18 l.length ((l.map (·.o)).flatMap z1n) = (l.map (·.o)).map z3h := by
   have := z7h (l.map (·.o))
   rwa [List.length_map] at this
  repeat' (first | refine nxt ?_ | ((refine zqh fun K hK => ?_); (simp (disch := omega) only [go_sem, Nat.reduceBEq, ↓reduceIte, q1, q6, zb8])) | ((refine zqd _ rfl (fun hc => ?_) (fun hc => ?_)) <;> (((try simp only [z08] at hc); (try (exfalso; omega))))) | (refine hK _ ?_; clear hK K))
  refine zqz (zky _ (zv2 (P := Tryz.prog) (id := 1) (by exact qH1) (by decide +kernel) u0) ?_)
  have hsu : (z09 t).map (zhc Tryz.prog 1 32 l.length ((l.map (·.o)).flatMap z1n)) = z09 t := zhx _ (z04 t)
  have c1' : PC Tryz.prog 33 [.rsl false 18 ((l.map (·.o)).map z3h)] (.bool ((l.map (·.o)).all fewO)) := c1
  rw [List.map_map] at c1'
  repeat' (first | ((first | refine zqh fun K hK => ?_ | refine zqs (c0) ?_ | refine zqs (c1') ?_); (simp (disch := omega) only [go_sem, Nat.reduceBEq, ↓reduceIte, q1, zb8, v0])) | refine nxt ?_ | refine zqu (by (simp (disch := omega) only [go_sem]); rfl) rfl ?_ | (refine hK _ ?_; clear hK K) | (refine zqf (fun hb => ?_) (fun hb => ?_) <;> (have hb2 := hb; try simp only [z08] at hb2) <;> ((first | have hb3 : (_ : Bool) = _ := hb2 | have hb3 := eq_false hb2 | have hb3 := eq_true hb2); (simp (disch := omega) only [go_sem, Nat.reduceBEq, ↓reduceIte, Nat.reduceAdd, Nat.reduceLeDiff, hb, hb3, q2, q5, qH0, v0, hsu]); clear hb hb3; (try (exfalso; omega)))))
  ·refine ⟨_, z02 1 rfl, ?_⟩
   rw [decide_eq_true (show l.length <= 16 by omega), show zxc t 40 = true from by assumption]
   exact Le.refl _
  ·refine ⟨_, z02 1 rfl, ?_⟩
   rw [show zxc t 40 = false from by assumption, Bool.and_false, Bool.false_and]
   exact Le.refl _
  ·refine ⟨_, z02 1 rfl, ?_⟩
   rw [decide_eq_false (show ¬ l.length <= 16 by omega), Bool.false_and, Bool.false_and]
   exact Le.refl _
end Go.Proofs.YtlfohdkfpdkhhaaGreatDoor
namespace Go.Proofs.YtlfohdkfpdkhhaaGreatDoor.Abs
open Go.RowKit
variable {P : Program}
def Sem (P : Program) (N : Nat) (c : Code) (Q : Exit -> St -> Prop) (st : St) : Prop :=
 ∀ s0 w0 s a w, Fr P N st s a w -> Step s0 w0 s w -> c.wp P (lift P N s0 w0 Q) a w
theorem Sem.walk {N : Nat} {own : List Nat} {c : Code} {Q : Exit -> St -> Prop} {st : St} (hm : P.follows .mixedOrders = true) (hok : z9h N c = true) (h : awp P own c Q st) : Sem P N c Q st :=
 fun _ _ s a w hf hs => z5z hm c Q st s a w hok h hf hs
theorem Sem.seq {N : Nat} {x y : Code} {Q : Exit -> St -> Prop} {st : St} (h : Sem P N x (zty (fun st => Sem P N y Q st) Q) st) : Sem P N (.seq x y) Q st := by
 intro s0 w0 s a w hf hs
 refine wp_seq (wp_mono (h s0 w0 s a w hf hs) ?_)
 rintro e a' w' ⟨st', s', hq, hf', hs'⟩
 cases e with
 | normal => exact hq s0 w0 s' a' w' hf' hs'
 | exit id => exact ⟨st', s', hq, hf', hs'⟩
 | goto l => exact ⟨st', s', hq, hf', hs'⟩
 | ret => exact ⟨st', s', hq, hf', hs'⟩
 | panic ch => exact ⟨st', s', hq, hf', hs'⟩
 | outgrown => exact ⟨st', s', hq, hf', hs'⟩
theorem Sem.cond {N : Nat} {c : Operand} {x y : Code} {Q : Exit -> St -> Prop} {st : St} (t : Bool) (ht : st.ev c = .bool t) (h1 : t = true -> Sem P N x Q st) (h2 : t = false -> Sem P N y Q st) : Sem P N (.cond c x y) Q st := by
 intro s0 w0 s a w hf hs
 have hv := hf.ev c
 rw [ht] at hv
 simp only [rel] at hv
 exact wp_cond_split hv (fun e => h1 e s0 w0 s a w hf hs) (fun e => h2 e s0 w0 s a w hf hs)
section
variable {st : St} {dst : Option Nat} {n : FuncId} {cap args : List D} {g : List Oper -> (St -> Prop) -> St -> Prop} {rest : List Oper} {K : St -> Prop}
def DC (P : Program) (f : FuncId) (ds : List D) (i j : Nat) (a a' b b' : HObj) (r : D) : Prop := ∀ H nx, i < nx -> j < nx -> H i = some a -> H j = some b -> AC P f ds H nx fun r' H2 n2 => r' = r /\ H2 = z13 (z13 H i (some a')) j (some b') /\ n2 = nx
theorem callW_dc {i j : Nat} {a a' b b' : HObj} {r : D} (h : DC P n (args ++ cap) i j a a' b b' r) (hi : st.H i = some a) (hj : st.H j = some b) (h1 : i < st.nx) (h2 : j < st.nx)
  (hk : g rest K ((st.withH (z13 (z13 st.H i (some a')) j (some b')) st.nx).put dst r)) : zly P (.fn n cap) args g rest K st dst :=
 zaz ((h st.H st.nx h1 h2 hi hj).mono fun r' H2 n2 ⟨h1, h2, h3⟩ => by subst h1; subst h2; subst h3; exact hk)
end
end Go.Proofs.YtlfohdkfpdkhhaaGreatDoor.Abs
namespace Go.Proofs.YtlfohdkfpdkhhaaGreatDoor.Abs
open Go.RowKit
variable {P : Program}
mutual
theorem zo4 : ∀ d : D, renD (fun j => j) d = d
 | .agg ds => by simp only [renD, zjp ds]
 | .tup ds => by simp only [renD, zjp ds]
 | .osl _ _ | .ptr _ _ | .mp _ | .any | .int _ _ | .bool _ | .str _ | .nil | .nptr | .nfun | .nmp | .e0 | .rsl _ _ _ | .rptr _ | .fsl _ _ | .fn _ _ | .eptr _ _ _ | .it _ => rfl
theorem zjp : ∀ ds : List D, renD.renL (fun j => j) ds = ds
 | [] => rfl
 | d :: ds => by simp only [renD.renL, zo4 d, zjp ds]
end
theorem zpx (g : Nat -> Nat) : ∀ ds : List D, renD.renL g ds = ds.map (renD g)
 | [] => rfl
 | d :: ds => by simp only [renD.renL, List.map_cons, zpx g ds]
noncomputable def zgd (s s3 : RS) (φ σ : Nat -> Nat) (n p : Nat) : RS :=
 {m := s3.m
  κ := fun i => @dite _ (∃ j, j < n /\ φ j = i) (Classical.propDecidable _) (fun h => s3.κ (σ h.choose)) (fun _ => s.κ i)
  H := fun i => @dite _ (∃ j, j < n /\ φ j = i) (Classical.propDecidable _) (fun h => s3.H (σ h.choose)) (fun _ => s.H i)
  nx := s.nx + p }
theorem zpy {f : FuncId} {ds : List D} {objs0 objs1 objs2 : List HObj} {r : D} {m n p : Nat} (hm : objs0.length = m) (hl : objs1.length = m) (hp : objs2.length = p) (hn : n = m + p)
  (hds : okD.okL m ds = true) (hr : okD n r = true) (ho0 : ∀ o ∈ objs0, z3y o = true) (ho1 : ∀ o ∈ objs1 ++ objs2, z3y o = true)
  (h : AC P f ds (fun i => objs0[i]?) m fun d H' _ => ∃ σ : Nat -> Nat, (∀ j, j < m -> σ j = j) /\ (∀ i j, i < n -> j < n -> σ i = σ j -> i = j) /\ d = renD σ r /\ ∀ j, j < n -> H' (σ j) = (objs1 ++ objs2)[j]?)
  {τ : Nat -> Nat} (hτ : ∀ i j, i < m -> j < m -> τ i = τ j -> i = j) {H : HM} {nx : Nat} (hnx : ∀ j, j < m -> τ j < nx) (hH : ∀ j, j < m -> H (τ j) = objs0[j]?) :
  AC P f (ds.map (renD τ)) H nx fun r' H2 n2 => r' = renD (fun j => if j < m then τ j else nx + (j - m)) r /\ (∀ j, j < m -> H2 (τ j) = objs1[j]?) /\ (∀ j, j < p -> H2 (nx + j) = objs2[j]?) /\
   (∀ i, (∀ j, j < m -> τ j ≠ i) -> ¬ (nx <= i /\ i < nx + p) -> H2 i = H i) /\ n2 = nx + p := by
 refine ⟨h.1, fun s w vs e1 e2 hRH hrel => ?_⟩
 subst e1; subst e2
 let s2 : RS := { m := s.m, κ := fun i => s.κ (τ i), H := fun i => objs0[i]?, nx := m }
 have h2lt : ∀ i, s2.H i ≠ none -> i < m := fun i hi => by
  rcases Nat.lt_or_ge i m with h9 | h9
  ·exact h9
  ·exact (hi (List.getElem?_eq_none (by omega))).elim
 have h2H : ∀ i, i < m -> s2.H i = s.H (τ i) := fun i hi => (hH i hi).symm
 have hlive0 : ∀ j, j < m -> s.H (τ j) ≠ none := fun j hj => by rw [hH j hj, List.getElem?_eq_getElem (by omega)]; simp
 have hown2 : ∀ k, owned s2 k -> owned s k := by
  rintro k ⟨i, hi, hHi, hb⟩
  exact ⟨τ i, hnx i hi, hlive0 i hi, hb⟩
 have hRH2 : RH P s2 w := by
  refine ⟨fun a u hmm => ⟨(hRH.mem a u hmm).1, fun ho => (hRH.mem a u hmm).2 (hown2 _ ho)⟩, fun i o ho => ?_, fun i j hi hj hij hb => ?_, fun g => z1w (s := s) (s' := s2) (fun a v hm => hm) _ _ (z4n g) (hRH.glob g)⟩
  ·have hi := h2lt i (by rw [ho]; simp)
   have ho' : s.H (τ i) = some o := by rw [<- h2H i hi]; exact ho
   refine ⟨hi, objOK.pure (s := s) (s' := s2) (fun _ _ h => h) (ho0 o ?_) (hRH.obj _ o ho').2⟩
   exact List.mem_of_getElem? (by rw [<- hH i hi]; exact ho')
  ·have hi' := h2lt i hi
   have hj' := h2lt j hj
   exact hRH.apart (τ i) (τ j) (hlive0 i hi') (hlive0 j hj') (fun e => hij (hτ i j hi' hj' e)) hb
 have hr2 : relAll s2 ds vs := by
  have := zam (s := s) (s' := s2) (k := m) (σ := τ) (τ := fun j => j) (fun _ _ h => h) (fun j hj => hj) (fun j hj => ⟨h2H j hj, rfl⟩) ds vs hds (by rw [zpx]; exact hrel)
  rwa [zjp] at this
 refine (h.2 s2 w vs rfl rfl hRH2 hr2).mono fun e w' ⟨v, d, s3, he, ⟨σ, hσ0, hσ, hd, hobj⟩, hstep, hRH3, hres⟩ => ?_
 subst hd
 obtain ⟨φ, hφ⟩ : ∃ φ : Nat -> Nat, φ = fun j => if j < m then τ j else s.nx + (j - m) := ⟨_, rfl⟩
 have hφlo : ∀ j, j < m -> φ j = τ j := fun j hj => by rw [hφ]; exact if_pos hj
 have hφhi : ∀ j, ¬ j < m -> φ j = s.nx + (j - m) := fun j hj => by rw [hφ]; exact if_neg hj
 have hφinj : ∀ i j, i < n -> j < n -> φ i = φ j -> i = j := by
  intro i j hi hj e
  by_cases h1 : i < m
  ·by_cases h2 : j < m
   ·rw [hφlo i h1, hφlo j h2] at e; exact hτ i j h1 h2 e
   ·rw [hφlo i h1, hφhi j h2] at e; have := hnx i h1; omega
  ·by_cases h2 : j < m
   ·rw [hφhi i h1, hφlo j h2] at e; have := hnx j h2; omega
   ·rw [hφhi i h1, hφhi j h2] at e; omega
 let s' := zgd s s3 φ σ n p
 have hnew : ∀ j, j < n -> s'.H (φ j) = s3.H (σ j) /\ s'.κ (φ j) = s3.κ (σ j) := by
  intro j hj
  have hex : ∃ j', j' < n /\ φ j' = φ j := ⟨j, hj, rfl⟩
  have hch : hex.choose = j := hφinj _ _ hex.choose_spec.1 hj hex.choose_spec.2
  show (zgd s s3 φ σ n p).H (φ j) = _ /\ (zgd s s3 φ σ n p).κ (φ j) = _
  simp only [zgd]
  rw [dif_pos hex, dif_pos hex, hch]
  exact ⟨rfl, rfl⟩
 have hother : ∀ i, (∀ j, j < n -> φ j ≠ i) -> s'.H i = s.H i /\ s'.κ i = s.κ i := by
  intro i hi
  have hex : ¬ ∃ j', j' < n /\ φ j' = i := fun ⟨j, hj, e⟩ => hi j hj e
  show (zgd s s3 φ σ n p).H i = _ /\ (zgd s s3 φ σ n p).κ i = _
  simp only [zgd]
  rw [dif_neg hex, dif_neg hex]
  exact ⟨rfl, rfl⟩
 have hcase : ∀ i, (∃ j, j < n /\ φ j = i) \/ ∀ j, j < n -> φ j ≠ i := fun i => by
  rcases Classical.em (∃ j, j < n /\ φ j = i) with h1 | h1
  ·exact .inl h1
  ·exact .inr fun j hj e => h1 ⟨j, hj, e⟩
 have hlive3 : ∀ j, j < n -> s3.H (σ j) ≠ none := fun j hj => by rw [hobj j hj, List.getElem?_eq_getElem (by rw [List.length_append]; omega)]; simp
 -- an object of the caller's that the callee does not see
 have hfar : ∀ i, (∀ j, j < n -> φ j ≠ i) -> s.H i ≠ none -> ∀ b, blockOf (s.κ i) = some b -> b < w.heap.size /\ ¬ owned s2 b := by
  intro i hi hHi b hb
  refine ⟨hRH.owned_lt ⟨i, hRH.fresh hHi, hHi, hb⟩, ?_⟩
  rintro ⟨j, hj, _, hb2⟩
  have hj : j < m := hj
  exact hRH.apart i (τ j) hHi (hlive0 j hj) (fun e => hi j (by omega) (by rw [hφlo j hj, e])) (by rw [hb]; simp) (by rw [hb]; exact hb2.symm)
 have hown : ∀ k, owned s' k -> owned s3 k \/ ∃ i, (∀ j, j < n -> φ j ≠ i) /\ s.H i ≠ none /\ blockOf (s.κ i) = some k := by
  rintro k ⟨i, _, hHi, hb⟩
  rcases hcase i with ⟨j, hj, rfl⟩ | hi
  ·rw [(hnew j hj).2] at hb
   exact .inl ⟨σ j, hRH3.fresh (hlive3 j hj), hlive3 j hj, hb⟩
  ·rw [(hother i hi).1] at hHi; rw [(hother i hi).2] at hb
   exact .inr ⟨i, hi, hHi, hb⟩
 have hown' : ∀ k, owned s' k -> owned s k \/ w.heap.size <= k := fun k hk => by
  rcases hown k hk with h1 | ⟨i, _, h1, h2⟩
  ·rcases hstep.own k h1 with h3 | h3
   ·exact .inl (hown2 k h3)
   ·exact .inr h3
  ·exact .inl ⟨i, hRH.fresh h1, h1, h2⟩
 have hlater : Later s s' := by
  refine ⟨by show s.nx <= s.nx + p; omega, fun a u hu => hstep.mem a u hu, fun i hi => ?_⟩
  rcases hcase i with ⟨j, hj, rfl⟩ | h1
  ·have hjm : j < m := by
    rcases Nat.lt_or_ge j m with h9 | h9
    ·exact h9
    ·rw [hφhi j (by omega)] at hi; omega
   rw [(hnew j hj).1, (hnew j hj).2, hφlo j hjm, hσ0 j hjm]
   have := hstep.objs j hjm
   rw [h2H j hjm] at this
   exact this
  ·rw [(hother i h1).1, (hother i h1).2]; exact objLe.refl _ _
 refine ⟨v, renD φ r, s', he, ⟨by rw [hφ], fun j hj => ?_, fun j hj => ?_, fun i h1 h2 => ?_, rfl⟩, ?_, ?_, zne (s := s3) (s' := s') (k := n) (fun _ _ h => h) (fun j hj => ?_) hnew r v hr hres⟩
 ·rw [<- hφlo j hj, (hnew j (by omega)).1, hobj j (by omega), List.getElem?_append_left (by omega)]
 ·have := hφhi (m + j) (by omega)
  rw [show m + j - m = j by omega] at this
  rw [<- this, (hnew (m + j) (by omega)).1, hobj _ (by omega), List.getElem?_append_right (by omega)]
  congr 1; omega
 ·refine (hother i fun j hj e => ?_).1
  by_cases h3 : j < m
  ·exact h1 j h3 (by rw [<- hφlo j h3]; exact e)
  ·rw [hφhi j h3] at e; exact h2 ⟨by omega, by omega⟩
 ·refine ⟨hstep.os, hstep.tape, hstep.output, hstep.size, hlater.nx, hlater.mem, fun a u hu => ?_, hlater.objs, fun k hk ho => hstep.keep k hk (fun h1 => ho (hown2 k h1)), hown'⟩
  rcases hstep.new a u hu with h1 | h1 | h1
  ·exact .inl h1
  ·exact .inr (.inl h1)
  ·exact .inr (.inr (hown2 _ h1))
 ·refine ⟨fun a u hu => ⟨(hRH3.mem a u hu).1, fun ho => ?_⟩, fun i o ho => ?_, fun i j hi hj hij hb => ?_, fun g => rel.later hlater _ _ (hRH.glob g)⟩
  ·rcases hown _ ho with h1 | ⟨i, hi, h1, h2⟩
   ·exact (hRH3.mem a u hu).2 h1
   ·obtain ⟨h3, h4⟩ := hfar i hi h1 _ h2
    rcases hstep.new a u hu with h5 | h5 | h5
    ·exact (hRH.mem a u h5).2 ⟨i, hRH.fresh h1, h1, h2⟩
    ·omega
    ·exact h4 h5
  ·rcases hcase i with ⟨j, hj, rfl⟩ | hi
   ·rw [(hnew j hj).1] at ho
    rw [(hnew j hj).2]
    refine ⟨?_, objOK.pure (s := s3) (s' := s') (fun _ _ h => h) (ho1 o ?_) (hRH3.obj (σ j) o ho).2⟩
    ·show φ j < s.nx + p
     by_cases h1 : j < m
     ·rw [hφlo j h1]; have := hnx j h1; omega
     ·rw [hφhi j h1]; omega
    ·rw [hobj j hj] at ho; exact List.mem_of_getElem? ho
   ·obtain ⟨g1, g2⟩ := hother i hi
    rw [g1] at ho; rw [g2]
    obtain ⟨q1, q2⟩ := hRH.obj i o ho
    refine ⟨by show i < s.nx + p; omega, q2.mono hlater fun b hb => ?_⟩
    obtain ⟨h3, h4⟩ := hfar i hi (by rw [ho]; simp) b hb
    exact hstep.keep b h3 h4
  ·have key : ∀ i j, s'.H i ≠ none -> s'.H j ≠ none -> (∃ a, a < n /\ φ a = i) -> (∀ a, a < n -> φ a ≠ j) -> blockOf (s'.κ i) ≠ none -> blockOf (s'.κ i) ≠ blockOf (s'.κ j) := by
    rintro i j hi hj ⟨a, ha, rfl⟩ hjo hb e
    rw [(hnew a ha).2] at hb e
    rw [(hother j hjo).1] at hj
    rw [(hother j hjo).2] at e
    cases hbb : blockOf (s3.κ (σ a)) with
    | none => exact hb hbb
    | some b =>
     rw [hbb] at e
     obtain ⟨h3, h4⟩ := hfar j hjo hj b e.symm
     rcases hstep.own b ⟨σ a, hRH3.fresh (hlive3 a ha), hlive3 a ha, hbb⟩ with h5 | h5
     ·exact h4 h5
     ·omega
   rcases hcase i with hi1 | hi1
   ·rcases hcase j with hj1 | hj1
    ·obtain ⟨a, ha, rfl⟩ := hi1
     obtain ⟨c, hc, rfl⟩ := hj1
     rw [(hnew a ha).2] at hb ⊢
     rw [(hnew c hc).2]
     exact hRH3.apart (σ a) (σ c) (hlive3 a ha) (hlive3 c hc) (fun e => hij (by rw [hσ a c ha hc e])) hb
    ·exact key i j hi hj hi1 hj1 hb
   ·rcases hcase j with hj1 | hj1
    ·intro e
     exact key j i hj hi hj1 hi1 (by rw [<- e]; exact hb) e.symm
    ·rw [(hother i hi1).1] at hi; rw [(hother i hi1).2] at hb ⊢
     rw [(hother j hj1).1] at hj; rw [(hother j hj1).2]
     exact hRH.apart i j hi hj hij hb
 ·show φ j < s.nx + p
  by_cases h1 : j < m
  ·rw [hφlo j h1]; have := hnx j h1; omega
  ·rw [hφhi j h1]; omega
mutual
theorem zcp (g : Nat -> Nat) : ∀ d : D, pureD d = true -> renD g d = d
 | .agg ds, h => by simp only [renD, zge g ds h]
 | .tup ds, h => by simp only [renD, zge g ds h]
 | .osl _ _, h => by cases h
 | .ptr _ _, h => by cases h
 | .mp _, h => by cases h
 | .any, _ | .int _ _, _ | .bool _, _ | .str _, _ | .nil, _ | .nptr, _ | .nfun, _ | .nmp, _ | .e0, _ | .rsl _ _ _, _ | .rptr _, _ | .fsl _ _, _ | .fn _ _, _ | .eptr _ _ _, _ | .it _, _ => rfl
theorem zge (g : Nat -> Nat) : ∀ ds : List D, pureD.pureL ds = true -> renD.renL g ds = ds
 | [], _ => rfl
 | d :: ds, h => by
  simp only [pureD.pureL, Bool.and_eq_true] at h
  simp only [renD.renL, zcp g d h.1, zge g ds h.2]
end
mutual
theorem zjq {k : Nat} : ∀ d : D, pureD d = true -> okD k d = true
 | .agg ds, h => zjr ds h
 | .tup ds, h => zjr ds h
 | .osl _ _, h => by cases h
 | .ptr _ _, h => by cases h
 | .mp _, h => by cases h
 | .any, _ | .int _ _, _ | .bool _, _ | .str _, _ | .nil, _ | .nptr, _ | .nfun, _ | .nmp, _ | .e0, _ => rfl
 | .rsl _ _ _, h | .rptr _, h | .fsl _ _, h | .fn _ _, h | .eptr _ _ _, h | .it _, h => h
theorem zjr {k : Nat} : ∀ ds : List D, pureD.pureL ds = true -> okD.okL k ds = true
 | [], _ => rfl
 | d :: ds, h => by
  simp only [pureD.pureL, Bool.and_eq_true] at h
  simp only [okD.okL, zjq d h.1, zjr ds h.2, Bool.and_self]
end
theorem one_objs (a : HObj) : (fun i => [a][i]? : HM) = z13 noH 0 (some a) := by
 funext i
 match i with
 | 0 => rfl
 | i + 1 => simp [z13, noH]
theorem two_objs (a b : HObj) : (fun i => [a, b][i]? : HM) = z13 (z13 noH 0 (some a)) 1 (some b) := by
 funext i
 match i with
 | 0 => rfl
 | 1 => rfl
 | i + 2 => simp [z13, noH]
theorem zjs {n : Nat} {o : HObj} (h : z3y o = true) : lowO n o = true := by
 cases o with
 | box e cs => exact z32 n cs h
 | row e k cs => exact z32 n cs h
 | map es =>
  simp only [z3y, Bool.and_eq_true] at h
  simp only [lowO, z32 n _ h.1, z32 n _ h.2, Bool.and_self]
 | raw o => rfl
theorem DC_frame {f : FuncId} {ds ds' : List D} {k : Nat} {r : D} {a a' b b' : HObj} (hds : okD.okL 2 ds = true) (hr : pureD r = true) (ha : z3y a = true) (ha' : z3y a' = true) (hb : z3y b = true) (hb' : z3y b' = true)
  (h : AC P f ds (z13 (z13 noH 0 (some a)) 1 (some b)) 2 fun d H' _ => (∃ x, z2s P (hiH 2 H') k d = some x /\ Le x r) /\ H' 0 = some a' /\ H' 1 = some b')
  {i j : Nat} (hij : i ≠ j) (hd : ds.map (renD fun q => if q = 0 then i else j) = ds') : DC P f ds' i j a a' b b' r := by
 intro H nx hi hj hHi hHj
 have h1 := zri hr h (fun H' ⟨hu, hv⟩ id o hid ho => by
  match id, hid with
  | 0, _ => rw [hu] at ho; cases ho; exact .inr (zjs ha')
  | 1, _ => rw [hv] at ho; cases ho; exact .inr (zjs hb'))
 have h2 := zpy (f := f) (ds := ds) (objs0 := [a, b]) (objs1 := [a', b']) (objs2 := []) (r := r) (m := 2) (n := 2) (p := 0) rfl rfl rfl rfl hds (zjq r hr) (fun o ho => by simp at ho; rcases ho with rfl | rfl <;> assumption) (fun o ho => by simp at ho; rcases ho with rfl | rfl <;> assumption)
  (by rw [two_objs]; exact h1.mono fun d H2 n2 ⟨e1, _, H', ⟨hu, hv⟩, e3⟩ => ⟨fun q => q, fun _ _ => rfl, fun _ _ _ _ e => e, by rw [zo4]; exact e1, fun q hq => by
   subst e3
   match q, hq with
   | 0, _ => show ztx 2 H' 0 = _; exact hu
   | 1, _ => show ztx 2 H' 1 = _; exact hv⟩)
  (τ := fun q => if q = 0 then i else j) (fun q q' hq hq' e => by
   match q, q', hq, hq' with
   | 0, 0, _, _ => rfl
   | 0, 1, _, _ => exact (hij e).elim
   | 1, 0, _, _ => exact (hij e.symm).elim
   | 1, 1, _, _ => rfl) (H := H) (nx := nx) (fun q hq => by
   match q, hq with
   | 0, _ => exact hi
   | 1, _ => exact hj) (fun q hq => by
   match q, hq with
   | 0, _ => exact hHi
   | 1, _ => exact hHj)
 rw [hd] at h2
 refine ⟨h2.1, fun s w vs q1 q2 q3 q4 => (h2.2 s w vs q1 q2 q3 q4).mono fun e w' ⟨v, r1, s1, he, ⟨g1, g2, _, g4, g5⟩, hs, hR, hrel⟩ => ⟨v, r1, s1, he, ⟨g1.trans (zcp _ r hr), ?_, g5⟩, hs, hR, hrel⟩⟩
 funext q
 have e0 : s1.H i = some a' := g2 0 (by omega)
 have e1 : s1.H j = some b' := g2 1 (by omega)
 unfold z13
 by_cases c1 : q = j
 ·subst c1; rw [if_pos rfl]; exact e1
 rw [if_neg c1]
 by_cases c2 : q = i
 ·subst c2; rw [if_pos rfl]; exact e0
 rw [if_neg c2]
 refine g4 q (fun x hx e => ?_) (by omega)
 match x, hx with
 | 0, _ => exact c2 e.symm
 | 1, _ => exact c1 e.symm
theorem TC_frame {f : FuncId} {ds ds' : List D} {k : Nat} {r : D} {a a' : HObj} (hds : okD.okL 1 ds = true) (hr : pureD r = true) (ha : z3y a = true) (ha' : z3y a' = true)
  (h : AC P f ds (z13 noH 0 (some a)) 1 fun d H' _ => (∃ x, z2s P (hiH 1 H') k d = some x /\ Le x r) /\ H' 0 = some a') (i : Nat) (hd : ds.map (renD fun _ => i) = ds') : TC P f ds' i a a' r := by
 intro H nx hi hHi
 have h1 := zri hr h (fun H' hu id o hid ho => by
  match id, hid with
  | 0, _ => rw [hu] at ho; cases ho; exact .inr (zjs ha'))
 have h2 := zpy (f := f) (ds := ds) (objs0 := [a]) (objs1 := [a']) (objs2 := []) (r := r) (m := 1) (n := 1) (p := 0) rfl rfl rfl rfl hds (zjq r hr) (fun o ho => by simp at ho; rw [ho]; exact ha) (fun o ho => by simp at ho; rw [ho]; exact ha')
  (by rw [one_objs]; exact h1.mono fun d H2 n2 ⟨e1, _, H', hu, e3⟩ => ⟨fun q => q, fun _ _ => rfl, fun _ _ _ _ e => e, by rw [zo4]; exact e1, fun q hq => by
   subst e3
   match q, hq with
   | 0, _ => show ztx 1 H' 0 = _; exact hu⟩)
  (τ := fun _ => i) (fun q q' hq hq' _ => by omega) (H := H) (nx := nx) (fun q hq => hi) (fun q hq => by
   match q, hq with
   | 0, _ => exact hHi)
 rw [hd] at h2
 refine ⟨h2.1, fun s w vs q1 q2 q3 q4 => (h2.2 s w vs q1 q2 q3 q4).mono fun e w' ⟨v, r1, s1, he, ⟨g1, g2, _, g4, g5⟩, hs, hR, hrel⟩ => ⟨v, r1, s1, he, ⟨g1.trans (zcp _ r hr), ?_, g5⟩, hs, hR, hrel⟩⟩
 funext q
 have e0 : s1.H i = some a' := g2 0 (by omega)
 unfold z13
 by_cases c2 : q = i
 ·subst c2; rw [if_pos rfl]; exact e0
 rw [if_neg c2]
 exact g4 q (fun x hx e => c2 e.symm) (by omega)
end Go.Proofs.YtlfohdkfpdkhhaaGreatDoor.Abs
namespace Go.Proofs.YtlfohdkfpdkhhaaGreatDoor
open Abs Facts Tr
attribute [local irreducible] awp
set_option maxRecDepth 100000
theorem tc_Log (s : Ses) (hl : s.dn.length <= 1000000) (hl2 : s.un.length <= 1000000) (ho : ∀ o ∈ s.dn, o.words.length <= 1000000 /\ szB o.unit = true) (k : Nat) : TC Tryz.prog 20 [.ptr k 0] k (edO s) (edO s) (z2r s.dn) := by
 have hct : (s.dn ++ s.un).take s.dn.length = s.dn := List.take_left' rfl
 refine TC_frame (k := 3) (ds := [.ptr 0 0]) rfl (z85 _) (show z3y (edO s) = true from z4h s) (show z3y (edO s) = true from z4h s) (z12 [3] Tryz.func20 rfl (by decide +kernel) z0g (by decide +kernel) (by simp [Tryz.ntmps20]) ?_) k rfl
 show awp _ _ (Code.seq _ _) _ _
 rw [show Tryz.f20.results.toList = [.tmp 2] from rfl]
 unfold edO
 repeat' (first | refine nxt ?_ | ((first | refine zqh fun K hK => ?_ | refine zqe (by decide +kernel) fun K hK => ?_); (simp (disch := omega) only [go_sem, Nat.reduceBEq, ↓reduceIte, reduceCtorEq, Nat.reduceAdd, z1c, z2r, List.length_append, List.length_map, <- List.map_take, hct])) | (refine hK _ ?_; clear hK K))
 (refine z3r (fun mz st => ∃ (i : _), mz = s.dn.length - i /\ st.t 0 = .ptr 0 0 /\ st.t 3 = .osl 1 i /\ st.t 14 = .rsl false 18 (s.dn.map z3h) /\ st.t 15 = .int .i64 s.dn.length /\ st.t 16 = .int .i64 i /\ st.H 0 = some (.box 74 (z1c s)) /\ st.H 1 = some (.row 32 i ((s.dn.take i).flatMap z1n)) /\ (i <= s.dn.length) /\ (2 <= st.nx)) ?_ ?_); rotate_left; (rintro mz st ⟨i, rfl, q0, q3, q14, q15, q16, qH0, qH1, qp0, qp1⟩); rotate_left
 ·(refine ⟨_, 0, rfl, ?_⟩); (simp (disch := omega) only [go_sem, Nat.reduceBEq, Nat.reduceLeDiff, and_self, Int.natCast_zero, List.flatMap_nil, z1c, z2r])
  all_goals first | exact ⟨rfl, rfl, by omega, by omega⟩ | rfl | omega
 by_cases hi : i < s.dn.length
 ·have hg := ho _ (List.getElem_mem hi)
  have c1 := zbg s.dn[i] hg.1 hg.2
  have htk := List.take_succ_eq_append_getElem hi
  repeat' (first | ((first | refine zqh fun K hK => ?_ | refine zqr fun K hK => ?_ | refine zqs (c1) ?_); (simp (disch := omega) only [go_sem, Nat.reduceBEq, ↓reduceIte, reduceCtorEq, Nat.reduceAdd, Nat.reduceMul, Nat.reduceLeDiff, q3, q14, q15, q16, qH1, z3h, zn3])) | ((refine zqd _ rfl (fun hc => ?_) (fun hc => ?_)) <;> (((try simp only [z08] at hc); (try (exfalso; omega))))) | refine nxt ?_ | (refine hK _ ?_; clear hK K))
  (refine Exists.intro _ (And.intro ?_ ⟨i + 1, rfl, ?_⟩)); rotate_left; (simp (disch := omega) only [go_sem, Nat.reduceBEq, Nat.reduceLeDiff, q0, q3, q14, q15, q16, qH0, qH1, true_and, Int.natCast_add, Int.natCast_one, List.flatMap_append, List.flatMap_cons, List.flatMap_nil, List.append_nil, htk]); rotate_left
  all_goals first | omega | exact ⟨by omega, by omega⟩
 ·have hie : i = s.dn.length := by omega
  subst hie
  rw [List.take_length] at qH1
  repeat' (first | ((refine zqh fun K hK => ?_); (simp (disch := omega) only [go_sem, Nat.reduceBEq, ↓reduceIte, q3, q15, q16])) | ((refine zqd _ rfl (fun hc => ?_) (fun hc => ?_)) <;> (((try simp only [z08] at hc); (try (exfalso; omega))))) | refine nxt ?_ | refine zqz ?_ | refine zqu (by (simp (disch := omega) only [go_sem, Nat.reduceBEq]); rfl) rfl ?_ | (refine hK _ ?_; clear hK K))
  refine ⟨⟨_, z1j 1 (by rw [hi_get (by omega)]; (simp (disch := omega) only [go_sem, qH1])) zyt sizeT32 z44 z6w, Le.refl _⟩, ?_⟩
  (simp (disch := omega) only [go_sem, qH0])
  all_goals first | exact qH0 | rfl
end Go.Proofs.YtlfohdkfpdkhhaaGreatDoor
namespace Go.Proofs.YtlfohdkfpdkhhaaGreatDoor
open Abs Facts Tr
attribute [local irreducible] awp
set_option maxRecDepth 100000
namespace Tr
theorem zsu (b : T) (l : List Deed) {i : Nat} (hi : i < l.length) : draft b (l.take (i + 1)) = doT (draft b (l.take i)) l[i] (z38 (l.take i)) := by
 rw [List.take_succ_eq_append_getElem hi, zb3]
end Tr
theorem zwh (s : Ses) (hs : standsT s.base = true) (hok : OKrun s.base s.dn) (ho : ∀ o ∈ s.dn, OpSz o) (hn : z38 s.dn <= 100000000) (hl : s.dn.length <= 1000000) (k : Nat) (H : HM) (nx : Nat) (hk : k < nx) (hH : H k = some (stO s)) :
  RC Tryz.prog 47 [.ptr k 0] H nx (.tup [z0i s.draft, .int .i64 (z38 s.dn : Nat)]) := by
 have hnb := zbq hk
 have hH2 : H k = some (.box 61 (z36 s)) := hH
 refine RC_fin (k := 3) (by simp only [pureD, pureD.pureL, z01, Bool.and_self]) (z12 [5000030] Tryz.func47 rfl (by decide +kernel) z0g (by decide +kernel) (by simp [Tryz.ntmps47]) ?_)
 show awp _ _ (Code.seq _ _) _ _
 rw [show Tryz.f47.results.toList = [.cell 2 27, .tmp 3] from rfl]
 have hsp : ∀ t x : T, z1d (z09 t) 0 (z09 x) = z09 x := fun t x => z6u _ _ (by rw [z0c, z0c])
 repeat' (first | refine nxt ?_ | ((refine zqh fun K hK => ?_); (simp (disch := omega) only [go_sem, Nat.reduceBEq, ↓reduceIte, reduceCtorEq, Nat.reduceAdd, Nat.reduceLeDiff, hH2, hnb])) | (refine hK _ ?_; clear hK K))
 (refine z3r (fun mz st => ∃ (i : _), mz = s.dn.length - i /\ st.t 0 = .ptr k 0 /\ st.t 2 = .ptr nx 0 /\ st.t 4 = .ptr (nx + 1) 0 /\ st.t 5 = .int .i64 (z38 (s.dn.take i) : Nat) /\ st.t 6 = .int .i64 i /\ st.H (k) = some (.box 61 (z36 s)) /\ st.H (nx) = some (.box 27 z60) /\ st.H (nx + 1) = some (.box 27 (z09 (draft s.base (s.dn.take i)))) /\ (i <= s.dn.length) /\ (nx + 2 <= st.nx) /\ (∀ id, id < nx -> st.H id = H id)) ?_ ?_); rotate_left; (rintro mz st ⟨i, rfl, q0, q2, q4, q5, q6, qHk, qHnx, qHnx1, qp0, qp1, qp2⟩); rotate_left
 ·(refine ⟨_, 0, rfl, ?_⟩); (simp (disch := omega) only [go_sem, Nat.reduceBEq, Nat.reduceLeDiff, true_and, Int.natCast_zero, z60, hH2, hnb])
  exact ⟨rfl, rfl, Nat.le_refl _, fun id a => by simp (disch := omega) only [z1u]⟩
 by_cases hi : i < s.dn.length
 ·have h1 := znm s.dn i
  have hd := z63 hs (zok hok i)
  have c1 := pc_Do (draft s.base (s.dn.take i)) hd s.dn[i] (ho _ (List.getElem_mem hi)) (z38 (s.dn.take i)) (by omega)
  rw [z7g (t := draft s.base (s.dn.take (i + 1))) (m := zj6 s.dn[i]) (hok i hi) (zsu _ _ hi).symm rfl] at c1
  repeat' (first | refine nxt ?_ | ((first | refine zqh fun K hK => ?_ | refine zqr fun K hK => ?_ | refine zqq (by decide +kernel) fun K hK => ?_ | refine zqt (c1) ?_); (simp (disch := omega) only [go_sem, Nat.reduceBEq, ↓reduceIte, reduceCtorEq, Nat.reduceAdd, Nat.reduceLeDiff, q0, q4, q5, q6, qHk, qHnx1, z0i, z3h, z2r, hsp])) | ((refine zqd _ rfl (fun hc => ?_) (fun hc => ?_)) <;> (((try simp only [z08] at hc); (try (exfalso; omega))))) | (refine hK _ ?_; clear hK K))
  (refine Exists.intro _ (And.intro ?_ ⟨i + 1, rfl, ?_⟩)); rotate_left; (simp (disch := omega) only [go_sem, Nat.reduceBEq, q0, q2, q4, q5, q6, qHk, qHnx, qHnx1, true_and, Int.natCast_add, Int.natCast_one, zce s.dn hi, hnb]); rotate_left
  ·omega
  ·refine ⟨by omega, by omega, fun id hid => ?_⟩
   simp (disch := omega) only [z1u]
   exact qp2 id hid
 ·have hie : i = s.dn.length := by omega
  subst hie
  rw [List.take_length] at q5 qHnx1
  repeat' (first | refine nxt ?_ | ((refine zqh fun K hK => ?_); (simp (disch := omega) only [go_sem, Nat.reduceBEq, ↓reduceIte, reduceCtorEq, Nat.reduceAdd, Nat.reduceLeDiff, q0, q2, q4, q5, q6, qHk, qHnx, qHnx1, z2r, z60])) | ((refine zqd _ rfl (fun hc => ?_) (fun hc => ?_)) <;> (((try simp only [z08] at hc); (try (exfalso; omega))))) | refine zqz ?_ | refine zqu (by (simp (disch := omega) only [go_sem, Nat.reduceBEq, ↓reduceIte, Nat.reduceLeDiff, q2, qHnx, z60]); rfl) rfl ?_ | (refine hK _ ?_; clear hK K))
  refine ⟨⟨_, z02 2 (by simp only [pureD, pureD.pureL, z04, Bool.and_self]), Le.refl _⟩, fun id hid => ?_⟩
  (simp (disch := omega) only [go_sem])
  simp (disch := omega) only [z1u]
  exact qp2 id hid
theorem le_apply (s : Ses) (l : List Deed) : LeL (((z36 s).set 8 (.rsl false 18 (l.map z3h))).set 9 .nil) (z36 ⟨s.base, l, []⟩) := by
 rw [z3q, z3q]
 exact ⟨Le.refl _, Le.refl _, Le.refl _, Le.refl _, Le.refl _, Le.refl _, Le.refl _, Le.refl _, Le.refl _, Le.nil 18, trivial⟩
theorem zo6 (s : Ses) (n : Nat) : lowO n (stO s) = true := z32 n (z36 s) (zbh s)
theorem zwi (s : Ses) (hs : standsT s.base = true) (hok : OKrun s.base s.dn) (ho : ∀ o ∈ s.dn, OpSz o) (hn : z38 s.dn <= 100000000) (hl : s.dn.length <= 1000000) (o : Deed) (hoo : OpSz o) (k : Nat) :
  TC Tryz.prog 50 [.ptr k 0, z3h o] k (stO s) (stO (z1i s o).2) (.int .i64 (z1i s o).1) := by
 have hd := z63 hs hok
 have c2 := pc_Do s.draft hd o hoo (z38 s.dn) hn
 refine zh5 (k := 1) rfl (fun n _ => zo6 _ n) fun H nx hk hH => (z12 [27, 3000031, 3000033, 2000035] Tryz.func50 rfl (by decide +kernel) z0g (by decide +kernel) (by simp [Tryz.ntmps50]) ?_)
 show awp _ _ (Code.seq _ _) _ _
 rw [show Tryz.f50.results.toList = [.tmp 4] from rfl]
 have hnb := zbq hk
 have hH2 : H k = some (.box 61 (z36 s)) := hH
 have hsp : ∀ t x : T, z1d (z09 t) 0 (z09 x) = z09 x := fun t x => z6u _ _ (by rw [z0c, z0c])
 have c1 := fun H' nx' (h1 : k < nx') (h2 : H' k = some (.box 61 (z36 s))) => zwh s hs hok ho hn hl k H' nx' h1 h2
 by_cases he : doE s.draft o (z38 s.dn) = 0
 ·have ha : z1i s o = (0, ⟨s.base, s.dn ++ [o], []⟩) := by unfold z1i; rw [if_pos he]
  rw [ha]
  rw [z7g he rfl rfl] at c2
  have hgr : z22 true 18 (s.dn.length + 1) (s.dn.flatMap z1n ++ z1n o) = (s.dn ++ [o]).map z3h := by
   have := z7h (s.dn ++ [o])
   rw [List.length_append, List.length_singleton, List.flatMap_append, List.flatMap_singleton] at this
   exact this
  have hpu := z86 s.dn
  repeat' (first | refine nxt ?_ | ((first | refine z1m (N := 7) rfl fun K hK => ?_ | refine z35 (N := 7) rfl (by decide +kernel) fun K hK => ?_ | ((refine z0y (c1 _ _ ?_ ?_) ?_); (focus (((simp (disch := omega) only [go_sem]); done))); (focus ((simp (disch := omega) only [go_sem, hH2, hnb]); done))) | refine zqs (c2) ?_); (simp (disch := omega) only [go_sem, Nat.reduceBEq, Nat.reduceEqDiff, ↓reduceIte, reduceCtorEq, Nat.reduceAdd, Nat.reduceMul, Nat.reduceLeDiff, Nat.reduceLT, hH2, hnb, z3h, z2r, z2j, hgr, hpu, List.append_nil])) | ((refine zqd _ rfl (fun hc => ?_) (fun hc => ?_)) <;> (first | (cases hc; done) | ((try simp only [] at hc); (try (exfalso; omega))))) | (refine hK _ ?_; clear hK K))
  refine z1k fun K hK => ?_
  (simp (disch := omega) only [go_sem])
  refine hK _ _ (z6i (b := k) (cs' := z36 ⟨s.base, s.dn ++ [o], []⟩) (by (simp (disch := omega) only [go_sem, hH2, hnb]); rfl) (le_apply _ _)) ?_
  clear hK K
  repeat' (first | refine nxt ?_ | refine zqu (by (simp (disch := omega) only [go_sem, Nat.reduceBEq]); rfl) rfl ?_)
  refine ⟨⟨_, z02 0 rfl, Le.refl _⟩, ?_, fun id hid hne => ?_⟩
  ·(simp (disch := omega) only [go_sem, hnb])
   first | done | rfl
  ·(simp (disch := omega) only [go_sem])
   simp (disch := omega) only [z1u]
 ·have ha : z1i s o = (doE s.draft o (z38 s.dn), s) := by unfold z1i; rw [if_neg he]
  rw [ha]
  rw [z4t rfl he] at c2
  repeat' (first | refine nxt ?_ | ((first | refine zqh fun K hK => ?_ | ((refine z0y (c1 _ _ ?_ ?_) ?_); (focus (((simp (disch := omega) only [go_sem]); done))); (focus ((simp (disch := omega) only [go_sem, hH2, hnb]); done))) | refine zqs (c2) ?_); (simp (disch := omega) only [go_sem, Nat.reduceBEq, ↓reduceIte, Nat.reduceAdd, Nat.reduceLeDiff, hnb, z3h])) | ((refine zqd _ rfl (fun hc => ?_) (fun hc => ?_)) <;> (((try simp only [z08] at hc); (try (exfalso; omega))))) | refine zqu (by (simp (disch := omega) only [go_sem, Nat.reduceBEq]); rfl) rfl ?_ | (refine hK _ ?_; clear hK K))
  refine ⟨⟨_, z02 0 rfl, Le.refl _⟩, ?_, fun id hid hne => ?_⟩
  ·(simp (disch := omega) only [go_sem, hH2, hnb])
   first | done | rfl
  ·(simp (disch := omega) only [go_sem])
   simp (disch := omega) only [z1u]
end Go.Proofs.YtlfohdkfpdkhhaaGreatDoor
namespace Go.Proofs.YtlfohdkfpdkhhaaGreatDoor
open Abs Facts Tr
attribute [local irreducible] awp
set_option maxRecDepth 100000
theorem zhq (l : List Deed) (o : Deed) : z22 true 18 (l.length + 1) (l.flatMap z1n ++ z1n o) = (l ++ [o]).map z3h := by
 have := z7h (l ++ [o])
 rw [List.length_append, List.length_singleton, List.flatMap_append, List.flatMap_singleton] at this
 exact this
theorem zz7 (s : Ses) (hl : s.dn.length <= 1000000) (hl2 : s.un.length <= 1000000) (k : Nat) :
  TC Tryz.prog 30 [.ptr k 0] k (stO s) (stO (z5l s).2) (.bool (z5l s).1) := by
 refine zh5 (k := 1) rfl (fun n _ => zo6 _ n) fun H nx hk hH => (z12 [12, 3000016, 3000021, 3000024, 3000025, 2000027] Tryz.func30 rfl (by decide +kernel) z0g (by decide +kernel) (by simp [Tryz.ntmps30]) ?_)
 show awp _ _ (Code.seq _ _) _ _
 rw [show Tryz.f30.results.toList = [.tmp 2] from rfl]
 have hnb := zbq hk
 obtain ⟨b, d, u⟩ := s
 have hH2 : H k = some (.box 61 (z36 ⟨b, d, u⟩)) := hH
 rcases List.eq_nil_or_concat d with rfl | ⟨l, o, hd⟩
 ·have ha : z5l ⟨b, [], u⟩ = (false, ⟨b, [], u⟩) := rfl
  rw [ha]
  repeat' (first | refine nxt ?_ | ((refine zqh fun K hK => ?_); (simp (disch := omega) only [go_sem, Nat.reduceBEq, ↓reduceIte, reduceCtorEq, Nat.reduceAdd, hH2, z2r])) | ((refine zqd _ rfl (fun hc => ?_) (fun hc => ?_)) <;> (first | (cases hc; done) | ((try simp only [decide_eq_true_eq] at hc); (try (exfalso; omega))))) | refine zqu (by (simp (disch := omega) only [go_sem, Nat.reduceBEq]); rfl) rfl ?_ | (refine hK _ ?_; clear hK K))
  refine ⟨⟨_, z02 0 rfl, Le.refl _⟩, ?_, fun id hid hne => ?_⟩
  ·(simp (disch := omega) only [go_sem, hH2])
   first | done | rfl
  ·(simp (disch := omega) only [go_sem])
 ·simp only [List.concat_eq_append] at hd
  subst hd
  have ha : z5l ⟨b, l ++ [o], u⟩ = (true, ⟨b, l, o :: u⟩) := by unfold z5l; simp
  rw [ha]
  have hlen : (l ++ [o]).length = l.length + 1 := by simp
  have hlen : l.length + 1 <= 1000000 := by rw [<- hlen]; exact hl
  have hl2 : u.length <= 1000000 := hl2
  have hgr := zhq u.reverse o
  rw [List.length_reverse] at hgr
  have hpu := z86 u.reverse
  have hz : ((l.length + 1 : Nat) : Int) - 1 = ((l.length : Nat) : Int) := by omega
  have hge : ∀ (h : l.length < (l ++ [o]).length), (l ++ [o])[l.length] = o := fun h => by simp
  have htk : (l ++ [o]).take l.length = l := List.take_left' rfl
  have hs1 : ∀ x, ((z36 ⟨b, l ++ [o], u⟩).set 9 x)[8]? = some (.rsl false 18 (List.map z3h (l ++ [o]))) := by intro x; rw [z3q]; rfl
  have hfin : ((z36 ⟨b, l ++ [o], u⟩).set 9 (.rsl false 18 (List.map z3h (u.reverse ++ [o])))).set 8 (.rsl false 18 (List.map z3h l)) = z36 ⟨b, l, o :: u⟩ := by
   rw [z3q, z3q, List.reverse_cons]; rfl
  have hmin : min l.length (l.length + 1) = l.length := by omega
  repeat' (first | refine nxt ?_ | ((first | refine zqh fun K hK => ?_ | refine zqe (by decide +kernel) fun K hK => ?_); (simp (disch := omega) only [go_sem, Nat.reduceBEq, Nat.reduceEqDiff, ↓reduceIte, reduceCtorEq, Nat.reduceAdd, Nat.reduceMul, Nat.reduceLeDiff, Nat.reduceLT, hH2, hnb, z2r, z2j, hgr, hpu, List.append_nil, List.length_append, List.length_singleton, List.length_reverse, hz, hge, htk, z3h, Int.toNat_natCast, hs1, hfin])) | ((refine zqd _ rfl (fun hc => ?_) (fun hc => ?_)) <;> (first | (cases hc; done) | ((try simp only [decide_eq_false_iff_not] at hc); (try (exfalso; omega))))) | refine zqu (by (simp (disch := omega) only [go_sem, Nat.reduceBEq]); rfl) rfl ?_ | (refine hK _ ?_; clear hK K))
  refine ⟨⟨_, z02 0 rfl, Le.refl _⟩, ?_, fun id hid hne => ?_⟩
  ·(simp (disch := omega) only [go_sem, hnb])
   first | done | rfl
  ·(simp (disch := omega) only [go_sem])
   simp (disch := omega) only [z1u]
theorem zz8 (s : Ses) (hl : s.dn.length <= 1000000) (hl2 : s.un.length <= 1000000) (k : Nat) :
  TC Tryz.prog 51 [.ptr k 0] k (stO s) (stO (z6l s).2) (.bool (z6l s).1) := by
 refine zh5 (k := 1) rfl (fun n _ => zo6 _ n) fun H nx hk hH => (z12 [12, 3000016, 3000021, 3000024, 3000025, 2000027] Tryz.func51 rfl (by decide +kernel) z0g (by decide +kernel) (by simp [Tryz.ntmps51]) ?_)
 show awp _ _ (Code.seq _ _) _ _
 rw [show Tryz.f51.results.toList = [.tmp 2] from rfl]
 have hnb := zbq hk
 obtain ⟨b, d, u⟩ := s
 have hH2 : H k = some (.box 61 (z36 ⟨b, d, u⟩)) := hH
 cases u with
 | nil =>
  have ha : z6l ⟨b, d, []⟩ = (false, ⟨b, d, []⟩) := rfl
  rw [ha]
  repeat' (first | refine nxt ?_ | ((refine zqh fun K hK => ?_); (simp (disch := omega) only [go_sem, Nat.reduceBEq, ↓reduceIte, reduceCtorEq, Nat.reduceAdd, hH2, z2r, List.reverse_nil])) | ((refine zqd _ rfl (fun hc => ?_) (fun hc => ?_)) <;> (first | (cases hc; done) | ((try simp only [decide_eq_true_eq] at hc); (try (exfalso; omega))))) | refine zqu (by (simp (disch := omega) only [go_sem, Nat.reduceBEq]); rfl) rfl ?_ | (refine hK _ ?_; clear hK K))
  refine ⟨⟨_, z02 0 rfl, Le.refl _⟩, ?_, fun id hid hne => ?_⟩
  ·(simp (disch := omega) only [go_sem, hH2])
   first | done | rfl
  ·(simp (disch := omega) only [go_sem])
 | cons o u =>
  obtain ⟨l, hl3⟩ : ∃ l, l = u.reverse := ⟨_, rfl⟩
  have hur : (o :: u).reverse = l ++ [o] := by rw [List.reverse_cons, hl3]
  have ha : z6l ⟨b, d, o :: u⟩ = (true, ⟨b, d ++ [o], u⟩) := rfl
  rw [ha]
  have hlen0 : (l ++ [o]).length = l.length + 1 := by simp
  have hlen : l.length + 1 <= 1000000 := by rw [hl3, List.length_reverse]; exact hl2
  have hl : d.length <= 1000000 := hl
  have hgr := zhq d o
  have hpu := z86 d
  have hz : ((l.length + 1 : Nat) : Int) - 1 = ((l.length : Nat) : Int) := by omega
  have hge : ∀ (h : l.length < (l ++ [o]).length), (l ++ [o])[l.length] = o := fun h => by simp
  have htk : (l ++ [o]).take l.length = l := List.take_left' rfl
  have hs1 : ∀ x, ((z36 ⟨b, d, o :: u⟩).set 8 x)[9]? = some (.rsl false 18 (List.map z3h (l ++ [o]))) := by intro x; rw [z3q, hur]; rfl
  have hfin : ((z36 ⟨b, d, o :: u⟩).set 8 (.rsl false 18 (List.map z3h (d ++ [o])))).set 9 (.rsl false 18 (List.map z3h l)) = z36 ⟨b, d ++ [o], u⟩ := by
   rw [z3q, z3q, hl3]; rfl
  have hmin : min l.length (l.length + 1) = l.length := by omega
  repeat' (first | refine nxt ?_ | ((first | refine zqh fun K hK => ?_ | refine zqe (by decide +kernel) fun K hK => ?_); (simp (disch := omega) only [go_sem, Nat.reduceBEq, Nat.reduceEqDiff, ↓reduceIte, reduceCtorEq, Nat.reduceAdd, Nat.reduceMul, Nat.reduceLeDiff, Nat.reduceLT, hH2, hnb, z2r, z2j, hgr, hpu, hur, List.append_nil, List.length_append, List.length_singleton, hz, hge, htk, z3h, Int.toNat_natCast, hs1, hfin])) | ((refine zqd _ rfl (fun hc => ?_) (fun hc => ?_)) <;> (first | (cases hc; done) | ((try simp only [decide_eq_false_iff_not] at hc); (try (exfalso; omega))))) | refine zqu (by (simp (disch := omega) only [go_sem, Nat.reduceBEq]); rfl) rfl ?_ | (refine hK _ ?_; clear hK K))
  refine ⟨⟨_, z02 0 rfl, Le.refl _⟩, ?_, fun id hid hne => ?_⟩
  ·(simp (disch := omega) only [go_sem, hnb])
   first | done | rfl
  ·(simp (disch := omega) only [go_sem])
   simp (disch := omega) only [z1u]
end Go.Proofs.YtlfohdkfpdkhhaaGreatDoor
namespace Go.Proofs.YtlfohdkfpdkhhaaGreatDoor
open Abs Facts
attribute [local irreducible] awp
end Go.Proofs.YtlfohdkfpdkhhaaGreatDoor
namespace Go.Proofs.YtlfohdkfpdkhhaaGreatDoor
open Abs Facts Tr
attribute [local irreducible] awp
set_option maxRecDepth 100000
end Go.Proofs.YtlfohdkfpdkhhaaGreatDoor
namespace Go.Proofs.YtlfohdkfpdkhhaaGreatDoor
open Abs Facts Tr
structure OpOK (o : Deed) : Prop where
 few : fewO o = true
 at1 : -9223372036854775808 <= o.at_
 at2 : o.at_ <= 9223372036854775807
theorem OpOK.cnt {o : Deed} (h : OpOK o) : szB o.unit = true /\ cntT o.unit <= 12 /\ depT o.unit <= 20 := by
 have h1 := h.few
 unfold fewO at h1
 simp only [Bool.and_eq_true] at h1
 obtain ⟨a, b, c⟩ := few_sz (t := o.unit) (most := 12) (by decide) (by decide) h1.1.2
 exact ⟨a, by omega, c⟩
theorem OpOK.sz {o : Deed} (h : OpOK o) : OpSz o := by
 obtain ⟨a, b, c⟩ := h.cnt
 have h1 := h.few
 unfold fewO at h1
 simp only [Bool.and_eq_true, decide_eq_true_eq, List.all_eq_true] at h1
 exact ⟨by omega, fun w hw => by have := h1.2 w hw; omega, by omega, a, by omega, by omega, h.at1, h.at2⟩
structure RdO (o : Deed) : Prop where
 ws : o.words.length <= maxLen
 lb : o.label.size <= maxLen
 wt : ∀ w ∈ o.words, w.size <= maxLen
 un : fitB o.unit = true
 at1 : -9223372036854775808 <= o.at_
 at2 : o.at_ <= 9223372036854775807
theorem RdO.use {o : Deed} (h : RdO o) : o.words.length <= maxLen /\ o.label.size <= maxLen /\ (∀ w ∈ o.words, w.size <= maxLen) /\ fitB o.unit = true := ⟨h.ws, h.lb, h.wt, h.un⟩
theorem zzc {u : T} {l : List Ky} (hl : ∀ q ∈ l, RdO q.o) (h : (decide (l.length <= 16) && zxc u 40 && (l.map (·.o)).all fewO) = true) : szB u = true /\ cntT u <= 40 /\ depT u <= 20 /\ l.length <= 16 /\ ∀ p ∈ l, OpOK p.o := by
 simp only [Bool.and_eq_true, decide_eq_true_eq, List.all_eq_true] at h
 obtain ⟨⟨h1, h2⟩, h3⟩ := h
 obtain ⟨a, b, c⟩ := few_sz (t := u) (most := 40) (by decide) (by decide) h2
 exact ⟨a, by omega, c, h1, fun p hp => ⟨h3 _ (List.mem_map.2 ⟨p, hp, rfl⟩), (hl p hp).at1, (hl p hp).at2⟩⟩
structure Live (n : Nat) (s : Ses) : Prop where
 ok : SesOK s
 ops : ∀ o ∈ s.dn ++ s.un, OpOK o
 len : s.dn.length + s.un.length <= n
theorem add_le {l : List Deed} (h : ∀ o ∈ l, OpOK o) : z38 l <= 12 * l.length := by
 induction l with
 | nil => simp [z38]
 | cons o l ih =>
  have h1 := ih fun q hq => h q (List.mem_cons_of_mem _ hq)
  have h2 := (h o List.mem_cons_self).cnt.2.1
  have h3 : zj6 o <= cntT o.unit := by unfold zj6; split <;> omega
  unfold z38 at h1 ⊢
  rw [List.map_cons, List.sum_cons, List.length_cons]; omega
theorem Live.opsD {n : Nat} {s : Ses} (h : Live n s) : ∀ o ∈ s.dn, OpOK o := fun o ho => h.ops o (List.mem_append_left _ ho)
theorem Live.add {n : Nat} {s : Ses} (h : Live n s) : z38 s.dn <= 12 * n := by
 have h1 := add_le h.opsD
 have := h.len
 omega
theorem Live.mono {n m : Nat} {s : Ses} (h : Live n s) (hm : n <= m) : Live m s := ⟨h.ok, h.ops, Nat.le_trans h.len hm⟩
theorem zkr {t : T} (h : standsT t = true) : Live 0 ⟨t, [], []⟩ := ⟨⟨h, ok_nil t⟩, fun o ho => (by cases ho), by simp⟩
theorem Live.apply {n : Nat} {s : Ses} (h : Live n s) {o : Deed} (ho : OpOK o) : Live (n + 1) (z1i s o).2 := by
 refine ⟨apply_ok h.ok o, fun q hq => ?_, ?_⟩
 ·unfold z1i at hq
  split at hq
  ·simp only [List.append_nil, List.mem_append, List.mem_singleton] at hq
   rcases hq with hq | rfl
   ·exact h.opsD q hq
   ·exact ho
  ·exact h.ops q hq
 ·have := h.len
  unfold z1i
  split
  ·simp; omega
  ·show s.dn.length + s.un.length <= _; omega
theorem zhr (s : Ses) : (z5l s).2.base = s.base /\ (z5l s).2.dn ++ (z5l s).2.un = s.dn ++ s.un := by
 unfold z5l
 split
 ·exact ⟨rfl, rfl⟩
 ·rename_i o he
  refine ⟨rfl, ?_⟩
  obtain ⟨l, hl⟩ := List.getLast?_eq_some_iff.1 he
  show s.dn.dropLast ++ o :: s.un = _
  rw [hl, List.dropLast_concat, List.append_assoc]; rfl
theorem zhs (s : Ses) : (z6l s).2.base = s.base /\ (z6l s).2.dn ++ (z6l s).2.un = s.dn ++ s.un := by
 unfold z6l
 split
 ·exact ⟨rfl, rfl⟩
 ·rename_i o l he
  refine ⟨rfl, ?_⟩
  show (s.dn ++ [o]) ++ l = _
  rw [he, List.append_assoc]; rfl
theorem Live.undo {n : Nat} {s : Ses} (h : Live n s) : Live n (z5l s).2 := by
 obtain ⟨_, h2⟩ := zhr s
 refine ⟨undo_ok h.ok, fun q hq => h.ops q (by rw [<- h2]; exact hq), ?_⟩
 have h3 := h.len
 have h4 := congrArg List.length h2
 simp only [List.length_append] at h4
 omega
theorem Live.redo {n : Nat} {s : Ses} (h : Live n s) : Live n (z6l s).2 := by
 obtain ⟨_, h2⟩ := zhs s
 refine ⟨redo_ok h.ok, fun q hq => h.ops q (by rw [<- h2]; exact hq), ?_⟩
 have h3 := h.len
 have h4 := congrArg List.length h2
 simp only [List.length_append] at h4
 omega
def z5v (s : Ses) (p : Ky) : Ses := if p.k = 0 then (z1i s p.o).2 else if p.k = 1 then (z5l s).2 else if p.k = 2 then (z6l s).2 else s
theorem Live.press {n : Nat} {s : Ses} (h : Live n s) {p : Ky} (ho : OpOK p.o) : Live (n + 1) (z5v s p) := by
 unfold z5v
 split
 ·exact h.apply ho
 ·split
  ·exact h.undo.mono (by omega)
  ·split
   ·exact h.redo.mono (by omega)
   ·exact h.mono (by omega)
theorem zru (s : Ses) (p : Ky) : (z5v s p).base = s.base := by
 unfold z5v z1i
 split
 ·split <;> rfl
 ·split
  ·exact (zhr s).1
  ·split
   ·exact (zhs s).1
   ·rfl
def zp9 (s : Ses) (l : List Ky) : Ses := l.foldl z5v s
theorem zuj (l : List Ky) : ∀ s : Ses, (zp9 s l).base = s.base := by
 induction l with
 | nil => intro s; rfl
 | cons p l ih => intro s; exact (ih _).trans (zru s p)
theorem zks (s : Ses) (l : List Ky) (p : Ky) : zp9 s (l ++ [p]) = z5v (zp9 s l) p := by unfold zp9; rw [List.foldl_append]; rfl
theorem Live.run {s : Ses} : ∀ (l : List Ky) {n : Nat}, Live n s -> (∀ p ∈ l, OpOK p.o) -> Live (n + l.length) (zp9 s l) := by
 intro l
 refine ziz (p := fun l => ∀ {n : Nat}, Live n s -> (∀ p ∈ l, OpOK p.o) -> Live (n + l.length) (zp9 s l)) (fun h _ => h) (fun l o ih n h hl => ?_) l
 rw [zks, List.length_append, List.length_singleton]
 have h1 := ih h fun p hp => hl p (List.mem_append_left _ hp)
 exact h1.press (hl o (by simp))
section
variable {n : Nat} {s : Ses} (h : Live n s) (hn : n <= 100)
include h hn
theorem Live.trees : ∀ t ∈ trees s.base (s.dn ++ s.un), szB t = true := by
 intro t ht
 unfold Tr.trees at ht
 obtain ⟨k, _, rfl⟩ := List.mem_map.1 ht
 exact (z2e (z63 h.ok.st (zok h.ok.ok k))).1
theorem Live.dsz : szB s.draft = true /\ cntT s.draft <= 1024 /\ depT s.draft <= 8 := z2e h.ok.draft
theorem Live.tcApply {o : Deed} (ho : OpOK o) (k : Nat) : TC Tryz.prog 15 [.ptr k 0, z3h o] k (edO s) (edO (z1i s o).2) (.int .i64 (z1i s o).1) :=
 tc_Apply s h.ok.st (zr7 h.ok.ok) (fun q hq => (h.opsD q hq).sz) (by have := h.add; omega) (by have := h.len; omega) (by have := h.len; omega) o ho.sz k
theorem Live.tcApplyR {o : Deed} (ho : OpOK o) (k : Nat) : TC Tryz.prog 50 [.ptr k 0, z3h o] k (stO s) (stO (z1i s o).2) (.int .i64 (z1i s o).1) :=
 zwi s h.ok.st (zr7 h.ok.ok) (fun q hq => (h.opsD q hq).sz) (by have := h.add; omega) (by have := h.len; omega) o ho.sz k
theorem Live.tcUndo (k : Nat) : TC Tryz.prog 21 [.ptr k 0] k (edO s) (edO (z5l s).2) (.bool (z5l s).1) :=
 tc_Undo s (by have := h.len; omega) (by have := h.len; omega) k
theorem Live.tcRedo (k : Nat) : TC Tryz.prog 22 [.ptr k 0] k (edO s) (edO (z6l s).2) (.bool (z6l s).1) :=
 tc_Redo s (by have := h.len; omega) (by have := h.len; omega) k
theorem Live.tcUndoR (k : Nat) : TC Tryz.prog 30 [.ptr k 0] k (stO s) (stO (z5l s).2) (.bool (z5l s).1) :=
 zz7 s (by have := h.len; omega) (by have := h.len; omega) k
theorem Live.tcRedoR (k : Nat) : TC Tryz.prog 51 [.ptr k 0] k (stO s) (stO (z6l s).2) (.bool (z6l s).1) :=
 zz8 s (by have := h.len; omega) (by have := h.len; omega) k
theorem Live.rcDraft (k : Nat) (H : HM) (nx : Nat) (hk : k < nx) (hH : H k = some (edO s)) : RC Tryz.prog 18 [.ptr k 0] H nx (z0i s.draft) :=
 zh6 (pc_Draft s h.ok.draft) (ziy _) k H nx hk hH
end
theorem zuk (s : Ses) : z3y (edO s) = true := z4h s
theorem zul (s : Ses) : z3y (stO s) = true := zbh s
end Go.Proofs.YtlfohdkfpdkhhaaGreatDoor
namespace Go.Proofs.YtlfohdkfpdkhhaaGreatDoor.Glue
open Go.ChangeShapes Go.WideShapes Go.ChangeAt Go.RowKit Abs Facts Tr
set_option maxRecDepth 100000
def S51 : List TypeId := [4, 3, 5, 9, 28, 23, 48, 50, 24, 27, 25, 32, 34, 35]
theorem zvl : zgs Tryz.prog S51 = true := by decide +kernel
theorem zzz {n : Nat} {ds : List D} (h : z4j Tryz.prog n 32 ds) : ∃ o : Deed, ds = z1n o /\ RdO o := by
 obtain ⟨m, rfl, h⟩ := z4m Tryz.underlying32 h
 obtain ⟨d1, r1, rfl, h1, d2, r2, rfl, h2, d3, r3, rfl, h3, d4, r4, rfl, h4, d5, r5, rfl, h5, d6, r6, rfl, h6, d7, r7, rfl, h7, rfl⟩ := h
 obtain ⟨k, rfl, _⟩ := z52 Tryz.underlying3 h1
 obtain ⟨a, rfl, ha1, ha2⟩ := z52 Tryz.underlying3 h2
 obtain ⟨i, rfl⟩ := zjt h3
 obtain ⟨j, rfl⟩ := zjt h4
 obtain ⟨l, rfl, hl1, hl2⟩ := ztb Tryz.underlying28 Tryz.underlying9 zfh h5
 obtain ⟨s, rfl, hs⟩ := zd0 Tryz.underlying9 h6
 obtain ⟨t, rfl, ht⟩ := zif _ h7
 refine ⟨⟨k, a, i, j, l, s, t⟩, ?_, ⟨hl1, hs, hl2, ht, ha1, ha2⟩⟩
 rw [List.append_nil]; rfl
theorem zvm {n : Nat} {ds : List D} (h : z4j Tryz.prog n 34 ds) : ∃ p : Ky, ds = zg2 p /\ RdO p.o := by
 obtain ⟨m, rfl, h⟩ := z4m Tryz.underlying34 h
 obtain ⟨d1, r1, rfl, h1, d2, r2, rfl, h2, rfl⟩ := h
 obtain ⟨i, rfl⟩ : ∃ i : Int, d1 = [.int .u8 i] := by
  cases m with
  | zero => cases h1
  | succ m =>
   simp only [z4j, Tryz.underlying5] at h1
   obtain ⟨i, h1, _⟩ := h1
   exact ⟨i, h1⟩
 obtain ⟨o, rfl, ho⟩ := zzz h2
 refine ⟨⟨i, o⟩, ?_, ho⟩
 rw [List.append_nil]; rfl
section
variable {H : Type} {enc : TypeId × Value -> H} {W : World} {base : Nat} {r : Reach} {b0 : Nat} {spare : Nat -> Bool} {held : Bool} {v : Value} {d : DataW H} {p : List MemPlace}
theorem z000 (hv : Value.okWide Tryz.prog W r b0 35 v) (h : DataW.Trod enc Tryz.prog W base spare held 35 v d p) : ∃ l : List Ky, (l.length <= maxLen /\ ∀ q ∈ l, RdO q.o) /\ rel (z7d W) (zb8 l) v := by
 obtain ⟨a, n, c, rfl⟩ := okWide_slice Tryz.underlying35 hv
 obtain ⟨m, d', ht, hr⟩ := one_arg zvl (by decide) zyv rfl h
 obtain ⟨m, parts, rfl, hl, hp, he⟩ := z97 Tryz.underlying35 ht
 obtain ⟨l, rfl, hq⟩ := z53 (f := zg2) (q := fun q : Ky => RdO q.o) (fun p hp => zvm hp) parts hp
 refine ⟨l, ⟨by simpa using hl, hq⟩, ?_⟩
 have : d' = zb8 l := by
  simp only [List.cons.injEq, and_true] at he
  rw [he, zyu, sizeT34, List.map_map]; rfl
 rw [this] at hr; exact hr
theorem bytesK : Tryz.prog.bytesOf 34 = 232 := by kernel_rfl
theorem rd_keys (hv : Value.okWide Tryz.prog W r b0 35 v) (h : DataW.Trod enc Tryz.prog W base spare held 35 v d p) {ts : List TypeId} {ds : List (DataW H)} (hz : (DataW.weightsEach Tryz.prog ts ds).all (· <= reachBytes) = true) (j : Nat)
  (ht : ts[j]? = some 35) (hd : ds[j]? = some d) : ∃ l : List Ky, (l.length <= 606627104962 /\ ∀ q ∈ l, RdO q.o) /\ rel (z7d W) (zb8 l) v := by
 obtain ⟨l, ⟨h1, h2⟩, hr⟩ := z000 hv h
 refine ⟨l, ⟨?_, h2⟩, hr⟩
 obtain ⟨m, hm⟩ := h
 obtain ⟨a, n, c, rfl⟩ := okWide_slice Tryz.underlying35 hv
 have hln : l.length = 0 \/ l.length = n := by
  simp only [zb8, rel] at hr
  rcases hr with ⟨_, h3, _⟩ | ⟨a', cap, vs, h3, _⟩
  ·exact .inl (by simpa using h3)
  ·simp only [Value.slice.injEq, List.length_map] at h3
   exact .inr h3.2.1.symm
 rcases DataW.trod_slice Tryz.underlying35 hm with ⟨hc, hx⟩ | ⟨a', len, cap, elems, rest, q, _, hc, hx, _, _, _, hl, _⟩
 ·have hc : [Value.slice a n c] = [.slice none 0 0] := hc
  simp only [List.cons.injEq, Value.slice.injEq, and_true] at hc
  omega
 ·have hc : [Value.slice a n c] = [.slice (some a') len cap] := hc
  simp only [List.cons.injEq, Value.slice.injEq, and_true] at hc
  simp only [Prod.mk.injEq] at hx
  rw [hx.1] at hd
  have := sized_slice hz ht hd Tryz.underlying35
  rw [bytesK, List.length_map, List.length_map, show reachBytes = 140737488351232 from rfl] at this
  omega
end
end Go.Proofs.YtlfohdkfpdkhhaaGreatDoor.Glue
namespace Go.Proofs.YtlfohdkfpdkhhaaGreatDoor
open Abs Facts Tr Go.Lib Go.RowKit
namespace Abs
variable {P : Program}
end Abs
end Go.Proofs.YtlfohdkfpdkhhaaGreatDoor
namespace Go.Proofs.YtlfohdkfpdkhhaaGreatDoor
open Abs Facts Tr
attribute [local irreducible] awp
set_option maxRecDepth 100000
namespace Tr
end Tr
end Go.Proofs.YtlfohdkfpdkhhaaGreatDoor
namespace Go.Proofs.YtlfohdkfpdkhhaaGreatDoor
open Abs Facts Tr
attribute [local irreducible] awp
set_option maxRecDepth 100000
theorem TC_rc {P : Program} {f : FuncId} {ds : List D} {k : Nat} {o : HObj} {r : D} (h : TC P f ds k o o r) : ∀ H nx, k < nx -> H k = some o -> RC P f ds H nx r := fun H nx hk hH =>
 (h H nx hk hH).mono fun r' H2 n2 ⟨e1, e2, e3⟩ => ⟨e1, by
  rw [e2]; funext q; unfold z13
  by_cases c : q = k
  ·subst c; rw [if_pos rfl]; exact hH.symm
  ·rw [if_neg c], e3⟩
section
variable {n : Nat} {s : Ses} (h : Live n s) (hn : n <= 100)
include h hn
theorem Live.rcLog (k : Nat) : ∀ H nx, k < nx -> H k = some (edO s) -> RC Tryz.prog 20 [.ptr k 0] H nx (z2r s.dn) :=
 TC_rc (tc_Log s (by have := h.len; omega) (by have := h.len; omega) (fun o ho => ⟨(h.opsD o ho).sz.ws, (h.opsD o ho).sz.un⟩) k)
end
theorem zzx {n : Nat} {s : Ses} (h : Live n s) (hn : n <= 100) (p : Ky) (hp : OpOK p.o) {i j : Nat} (hij : i ≠ j) :
  DC Tryz.prog 26 [.ptr i 0, .ptr j 0, zkm p] i j (edO s) (edO (z5v s p)) (stO s) (stO (z5v s p)) (.bool true) := by
 refine DC_frame (k := 1) (ds := [.ptr 0 0, .ptr 1 0, zkm p]) (by simp only [okD.okL, zjq _ (zg3 p)]; rfl) rfl (zuk s) (zuk _) (zul s) (zul _)
  (z12 [8000002, 4000014, 9000013, 4000018, 9000017, 600014, 900000, 600018, 900001] Tryz.func26 rfl (by decide +kernel) z0g (by decide +kernel) (by simp [Tryz.ntmps26]) ?_) hij (by simp only [List.map_cons, List.map_nil, zcp _ _ (zg3 p)]; rfl)
 show awp _ _ (Code.seq _ _) _ _
 rw [show Tryz.f26.results.toList = [.tmp 6] from rfl]
 have hkk : (zg2 p)[0]? = some (.int .u8 p.k) := rfl
 by_cases k0 : p.k = 0
 ·have hps : z5v s p = (z1i s p.o).2 := by unfold z5v; rw [if_pos k0]
  rw [hps]
  have t1 := h.tcApply hn hp 0
  have t2 := h.tcApplyR hn hp 1
  repeat' (first | refine nxt ?_ | ((first | refine zqh fun K hK => ?_ | refine zqe (by decide +kernel) fun K hK => ?_ | ((refine zco (t1) ?_ rfl rfl rfl (by decide) ?_ ?_); (focus ((simp (disch := omega) only [go_sem, Nat.reduceBEq]); done)); (focus (((simp (disch := omega) only [go_sem, ↓reduceIte, Nat.reduceLeDiff]); omega)))) | ((refine zco (t2) ?_ rfl rfl rfl (by decide) ?_ ?_); (focus ((simp (disch := omega) only [go_sem, Nat.reduceBEq]); done)); (focus (((simp (disch := omega) only [go_sem, ↓reduceIte, Nat.reduceLeDiff]); omega))))); (simp (disch := omega) only [go_sem, Nat.reduceBEq, Nat.reduceEqDiff, ↓reduceIte, reduceCtorEq, Nat.reduceAdd, Nat.reduceLeDiff, hkk, zlg, zdo, k0, zkm])) | ((refine zqm _ rfl (fun hc => ?_) (fun hc => ?_)) <;> (first | (cases hc; done) | ((try simp only [] at hc); (try (exfalso; omega))))) | refine zqu (by (simp (disch := omega) only [go_sem, Nat.reduceBEq]); rfl) rfl ?_ | (refine hK _ ?_; clear hK K))
  refine ⟨⟨_, z02 0 rfl, ?_⟩, ?_, ?_⟩
  ·first | exact Le.refl _ | (simp; exact Le.refl _)
  ·first | rfl | ((simp (disch := omega) only [go_sem, Nat.reduceBEq, Nat.reduceBeqDiff, Nat.reduceEqDiff, ↓reduceIte, reduceCtorEq, Nat.reduceAdd, Nat.reduceMul, Nat.reduceLeDiff, Nat.reduceLT, Int.reduceLT, Int.reduceLE, Int.reduceEq]))
  ·first | rfl | ((simp (disch := omega) only [go_sem, Nat.reduceBEq, Nat.reduceBeqDiff, Nat.reduceEqDiff, ↓reduceIte, reduceCtorEq, Nat.reduceAdd, Nat.reduceMul, Nat.reduceLeDiff, Nat.reduceLT, Int.reduceLT, Int.reduceLE, Int.reduceEq]))
 by_cases k1 : p.k = 1
 ·have hps : z5v s p = (z5l s).2 := by unfold z5v; rw [if_neg k0, if_pos k1]
  rw [hps]
  have t1 := h.tcUndo hn 0
  have t2 := h.tcUndoR hn 1
  repeat' (first | refine nxt ?_ | ((first | refine zqh fun K hK => ?_ | ((refine z5u (t1) ?_ ?_ ?_); (focus ((simp (disch := omega) only [go_sem, Nat.reduceBEq]); done)); (focus (((simp (disch := omega) only [go_sem]); done)))) | ((refine z5u (t2) ?_ ?_ ?_); (focus ((simp (disch := omega) only [go_sem, Nat.reduceBEq]); done)); (focus (((simp (disch := omega) only [go_sem]); done))))); (simp (disch := omega) only [go_sem, Nat.reduceBEq, ↓reduceIte, reduceCtorEq, Nat.reduceAdd, Int.reduceEq, hkk, k1, zkm])) | ((refine zqm _ rfl (fun hc => ?_) (fun hc => ?_)) <;> (first | (cases hc; done) | ((try simp only [] at hc); (try (exfalso; omega))))) | refine zqu (by (simp (disch := omega) only [go_sem, Nat.reduceBEq]); rfl) rfl ?_ | (refine hK _ ?_; clear hK K))
  refine ⟨⟨_, z02 0 rfl, ?_⟩, ?_, ?_⟩
  ·first | exact Le.refl _ | (simp; exact Le.refl _)
  ·first | rfl | ((simp (disch := omega) only [go_sem, Nat.reduceBEq, Nat.reduceBeqDiff, Nat.reduceEqDiff, ↓reduceIte, reduceCtorEq, Nat.reduceAdd, Nat.reduceMul, Nat.reduceLeDiff, Nat.reduceLT, Int.reduceLT, Int.reduceLE, Int.reduceEq]))
  ·first | rfl | ((simp (disch := omega) only [go_sem, Nat.reduceBEq, Nat.reduceBeqDiff, Nat.reduceEqDiff, ↓reduceIte, reduceCtorEq, Nat.reduceAdd, Nat.reduceMul, Nat.reduceLeDiff, Nat.reduceLT, Int.reduceLT, Int.reduceLE, Int.reduceEq]))
 by_cases k2 : p.k = 2
 ·have hps : z5v s p = (z6l s).2 := by unfold z5v; rw [if_neg k0, if_neg k1, if_pos k2]
  rw [hps]
  have t1 := h.tcRedo hn 0
  have t2 := h.tcRedoR hn 1
  repeat' (first | refine nxt ?_ | ((first | refine zqh fun K hK => ?_ | ((refine z5u (t1) ?_ ?_ ?_); (focus ((simp (disch := omega) only [go_sem, Nat.reduceBEq]); done)); (focus (((simp (disch := omega) only [go_sem]); done)))) | ((refine z5u (t2) ?_ ?_ ?_); (focus ((simp (disch := omega) only [go_sem, Nat.reduceBEq]); done)); (focus (((simp (disch := omega) only [go_sem]); done))))); (simp (disch := omega) only [go_sem, Nat.reduceBEq, ↓reduceIte, reduceCtorEq, Nat.reduceAdd, Int.reduceEq, hkk, k2, zkm])) | ((refine zqm _ rfl (fun hc => ?_) (fun hc => ?_)) <;> (first | (cases hc; done) | ((try simp only [] at hc); (try (exfalso; omega))))) | refine zqu (by (simp (disch := omega) only [go_sem, Nat.reduceBEq]); rfl) rfl ?_ | (refine hK _ ?_; clear hK K))
  refine ⟨⟨_, z02 0 rfl, ?_⟩, ?_, ?_⟩
  ·first | exact Le.refl _ | (simp; exact Le.refl _)
  ·first | rfl | ((simp (disch := omega) only [go_sem, Nat.reduceBEq, Nat.reduceBeqDiff, Nat.reduceEqDiff, ↓reduceIte, reduceCtorEq, Nat.reduceAdd, Nat.reduceMul, Nat.reduceLeDiff, Nat.reduceLT, Int.reduceLT, Int.reduceLE, Int.reduceEq]))
  ·first | rfl | ((simp (disch := omega) only [go_sem, Nat.reduceBEq, Nat.reduceBeqDiff, Nat.reduceEqDiff, ↓reduceIte, reduceCtorEq, Nat.reduceAdd, Nat.reduceMul, Nat.reduceLeDiff, Nat.reduceLT, Int.reduceLT, Int.reduceLE, Int.reduceEq]))
 have hps : z5v s p = s := by unfold z5v; rw [if_neg k0, if_neg k1, if_neg k2]
 rw [hps]
 repeat' (first | refine nxt ?_ | ((refine zqh fun K hK => ?_); (simp (disch := omega) only [go_sem, Nat.reduceBEq, ↓reduceIte, reduceCtorEq, Nat.reduceAdd, hkk, k0, k1, k2, zkm])) | ((refine zqm _ rfl (fun hc => ?_) (fun hc => ?_)) <;> (first | (cases hc; done) | ((try simp only [] at hc); (try (exfalso; omega))))) | refine zqu (by (simp (disch := omega) only [go_sem, Nat.reduceBEq]); rfl) rfl ?_ | (refine hK _ ?_; clear hK K))
 refine ⟨⟨_, z02 0 rfl, Le.refl _⟩, ?_, ?_⟩
 ·first | rfl | ((simp (disch := omega) only [go_sem, Nat.reduceBEq, Nat.reduceBeqDiff, Nat.reduceEqDiff, ↓reduceIte, reduceCtorEq, Nat.reduceAdd, Nat.reduceMul, Nat.reduceLeDiff, Nat.reduceLT, Int.reduceLT, Int.reduceLE, Int.reduceEq]))
 ·first | rfl | ((simp (disch := omega) only [go_sem, Nat.reduceBEq, Nat.reduceBeqDiff, Nat.reduceEqDiff, ↓reduceIte, reduceCtorEq, Nat.reduceAdd, Nat.reduceMul, Nat.reduceLeDiff, Nat.reduceLT, Int.reduceLT, Int.reduceLE, Int.reduceEq]))
end Go.Proofs.YtlfohdkfpdkhhaaGreatDoor
namespace Go.Proofs.YtlfohdkfpdkhhaaGreatDoor
open Abs Facts Tr
attribute [local irreducible] awp
set_option maxRecDepth 100000
namespace Tr
def exB : T := .mk Idv.zero 0 ByteArray.empty [] [] [.mk ⟨1, 0, 1⟩ 2 ⟨#[49]⟩ [] [⟨⟨#[97]⟩, ⟨1, 0, 0⟩⟩, ⟨⟨#[98]⟩, ⟨1, 0, 1⟩⟩] []]
def exO : Deed := ⟨0, 0, ⟨1, 0, 1⟩, Idv.zero, [⟨#[99]⟩, ⟨#[98]⟩], ByteArray.empty, T.zero⟩
def exB2 : T := .mk Idv.zero 0 ByteArray.empty [] [] [.mk ⟨1, 0, 1⟩ 2 ⟨#[49]⟩ [] [⟨⟨#[99]⟩, Idv.zero⟩, ⟨⟨#[98]⟩, ⟨1, 0, 1⟩⟩] []]
end Tr
theorem zwl : PC Tryz.prog 31 [] (z0i exB) := by
 refine z18 3 rfl (z01 _) (z12 [] Tryz.func31 rfl (by decide +kernel) z0g (by decide +kernel) (by simp [Tryz.ntmps31]) ?_)
 show awp _ _ (Code.seq _ _) _ _
 rw [show Tryz.f31.results.toList = [.cell 0 27] from rfl]
 repeat' (first | ((refine zqh fun K hK => ?_); (simp (disch := omega) only [go_sem, Nat.reduceBEq, ↓reduceIte, reduceCtorEq, Nat.reduceAdd, Nat.reduceMul, Nat.reduceLeDiff])) | refine nxt ?_ | refine zqu (by (simp (disch := omega) only [go_sem, Nat.reduceBEq, ↓reduceIte, Nat.reduceAdd, Nat.reduceLeDiff]); rfl) rfl ?_ | (refine hK _ ?_; clear hK K))
 refine z07 ?_ ?_
 ·rfl
 rw [z0i, z0l]
 refine Le.agg ⟨Le.refl _, Le.refl _, Le.refl _, Le.refl _, Le.refl _, Le.nil 4, Le.nil 4, Le.rslL ⟨?_, trivial⟩, trivial⟩
 rw [z0i, z0l]
 exact Le.agg ⟨Le.refl _, Le.refl _, Le.refl _, Le.refl _, Le.refl _, Le.nil 4, Le.rsl, Le.nil 8, trivial⟩
theorem ex_run : doE exB exO 0 = 0 /\ doT exB exO 0 = exB2 := by decide +kernel
theorem AC_le {P : Program} {f : FuncId} {ds es : List D} {H : HM} {nx : Nat} {K : D -> HM -> Nat -> Prop} (h : AC P f es H nx K) (hl : LeL ds es) : AC P f ds H nx K :=
 ⟨h.1, fun s w vs h1 h2 h3 h4 => h.2 s w vs h1 h2 h3 (z72 hl h4)⟩
theorem TC_le {P : Program} {f : FuncId} {ds es : List D} {k : Nat} {o o' : HObj} {r : D} (h : TC P f es k o o' r) (hl : LeL ds es) : TC P f ds k o o' r := fun H nx a b => AC_le (h H nx a b) hl
theorem idx_0 (a : D) (l : List D) : zto (a :: l) 0 = some a := by unfold zto; simp
theorem idx_1 (a b : D) (l : List D) : zto (a :: b :: l) 1 = some b := by unfold zto; simp; omega
theorem zsv : PC Tryz.prog 10 [] (.bool true) := by
 obtain ⟨x1, x2⟩ := ex_run
 have hst : standsT exB = true := by decide +kernel
 have hz : szB exB = true := (z2e hst).1
 have hop : OpOK exO := ⟨by decide +kernel, by decide, by decide⟩
 have l0 : Live 0 ⟨exB, [], []⟩ := zkr hst
 have ap : z1i ⟨exB, [], []⟩ exO = (0, ⟨exB, [exO], []⟩) := by
  unfold z1i
  rw [if_pos (show doE (Ses.draft ⟨exB, [], []⟩) exO (z38 []) = 0 from x1)]; rfl
 have l1 : Live 1 ⟨exB, [exO], []⟩ := by have := l0.apply hop; rwa [ap] at this
 have l2 : Live 1 ⟨exB, [], [exO]⟩ := l1.undo
 have d1 : Ses.draft ⟨exB, [exO], []⟩ = exB2 := x2
 have c1 := zwl
 have c2 := zy8 exB hst (by decide +kernel)
 have c3 := TC_le (ds := [.ptr 0 0, .agg [.int .i64 0, .int .i64 0, .int .i64 1, .int .i64 0, .int .i64 1, .int .i64 0, .int .i64 0, .int .i64 0, .rsl true 1 [.str ⟨#[99]⟩, .str ⟨#[98]⟩], .str ByteArray.empty, .int .i64 0, .int .i64 0, .int .i64 0, .int .i64 0, .str ByteArray.empty, .nil, .nil, .nil]]) (l0.tcApply (by omega) hop 0) (by
  refine ⟨Le.refl _, ?_, trivial⟩
  rw [z3h, zby]
  exact Le.agg ⟨Le.refl _, Le.refl _, Le.refl _, Le.refl _, Le.refl _, Le.refl _, Le.refl _, Le.refl _, Le.rsl, Le.refl _, Le.refl _, Le.refl _, Le.refl _, Le.refl _, Le.refl _, Le.nil 4, Le.nil 4, Le.nil 8, trivial⟩)
 rw [ap] at c3
 have c4 := l1.rcDraft (by omega) 0
 rw [d1] at c4
 have c5 := l1.tcUndo (by omega) 0
 rw [show z5l ⟨exB, [exO], []⟩ = (true, ⟨exB, [], [exO]⟩) from rfl] at c5
 have c6 := l2.rcDraft (by omega) 0
 rw [show Ses.draft ⟨exB, [], [exO]⟩ = exB from rfl] at c6
 have c7 := zj2 exB hz exB hz
 rw [decide_eq_true rfl] at c7
 have c8 := l2.tcRedo (by omega) 0
 rw [show z6l ⟨exB, [], [exO]⟩ = (true, ⟨exB, [exO], []⟩) from rfl] at c8
 have c10 := l1.tcRedo (by omega) 0
 rw [show z6l ⟨exB, [exO], []⟩ = (false, ⟨exB, [exO], []⟩) from rfl] at c10
 have hB2 : z09 exB2 = [.int .i64 0, .int .i64 0, .int .i64 0, .int .i64 0, .str ByteArray.empty, .rsl false 4 [], .rsl false 4 [], .rsl false 8 [.agg [.int .i64 1, .int .i64 0, .int .i64 1, .int .i64 2, .str ⟨#[49]⟩, .rsl false 4 [], .rsl false 4 [.agg [.str ⟨#[99]⟩, .int .i64 0, .int .i64 0, .int .i64 0], .agg [.str ⟨#[98]⟩, .int .i64 1, .int .i64 0, .int .i64 1]], .rsl false 8 []]]] := rfl
 refine z18 1 rfl rfl (z12 [] Tryz.func10 rfl (by decide +kernel) z0g (by decide +kernel) (by simp [Tryz.ntmps10]) ?_)
 show awp _ _ (Code.seq _ _) _ _
 repeat' (first | refine nxt ?_ | ((first | refine zqh fun K hK => ?_ | refine zqs (c1) ?_ | refine z7k (c2) ?_ | ((refine z5u (c3) ?_ ?_ ?_); (focus ((simp (disch := omega) only [go_sem]); done)); (focus (((simp (disch := omega) only [go_sem, Nat.reduceLT]); done)))) | ((refine z0y (c4 _ _ ?_ ?_) ?_); (focus (((simp (disch := omega) only [go_sem, Nat.reduceLT]); done))); (focus ((simp (disch := omega) only [go_sem]); done))) | ((refine z5u (c5) ?_ ?_ ?_); (focus ((simp (disch := omega) only [go_sem]); done)); (focus (((simp (disch := omega) only [go_sem, Nat.reduceLT]); done)))) | ((refine z0y (c6 _ _ ?_ ?_) ?_); (focus (((simp (disch := omega) only [go_sem, Nat.reduceLT]); done))); (focus ((simp (disch := omega) only [go_sem]); done))) | refine zqs (c7) ?_ | ((refine z5u (c8) ?_ ?_ ?_); (focus ((simp (disch := omega) only [go_sem]); done)); (focus (((simp (disch := omega) only [go_sem, Nat.reduceLT]); done)))) | ((refine z5u (c10) ?_ ?_ ?_); (focus ((simp (disch := omega) only [go_sem]); done)); (focus (((simp (disch := omega) only [go_sem, Nat.reduceLT]); done))))); (simp (disch := omega) only [go_sem, Nat.reduceBEq, ↓reduceIte, reduceCtorEq, Nat.reduceAdd, Nat.reduceLeDiff, z0i, hB2, idx_0])) | ((refine zqd _ rfl (fun hc => ?_) (fun hc => ?_)) <;> (first | (cases hc; done) | ((try simp only [] at hc); (try (exfalso; omega))))) | refine zqu (by (simp (disch := omega) only [go_sem]); rfl) rfl ?_ | (refine hK _ ?_; clear hK K) | (refine zqf (fun hb => ?_) (fun hb => ?_) <;> (have hb2 := hb; try simp only [z08] at hb2) <;> ((first | have hb3 := eq_false hb2 | have hb3 := eq_true hb2); (simp (disch := omega) only [go_sem, Nat.reduceBEq, ↓reduceIte, reduceCtorEq, Nat.reduceAdd, Nat.reduceLeDiff, hb3, idx_0, idx_1]); clear hb hb3; (try (exfalso; omega)))))
 all_goals exact z03 rfl
end Go.Proofs.YtlfohdkfpdkhhaaGreatDoor
namespace Go.Proofs.YtlfohdkfpdkhhaaGreatDoor
open Abs Facts Tr
attribute [local irreducible] awp
set_option maxRecDepth 100000
def ses0 (t : T) : Ses := ⟨t, [], []⟩
theorem zm3 (a b c d e f g h i j : D) (t : T) : z1d [a, b, c, d, e, f, g, h, i, j] 0 (z09 t) = z09 t ++ [i, j] := by rw [z0l]; rfl
theorem le_state (t : T) : LeL (z09 t ++ [.nil, .nil]) (z36 (ses0 t)) := by
 rw [z3q, z0l]
 exact ⟨Le.refl _, Le.refl _, Le.refl _, Le.refl _, Le.refl _, Le.refl _, Le.refl _, Le.refl _, Le.nil 18, Le.nil 18, trivial⟩
theorem zpw {u : T} (hs : standsT u = true) {l : List Ky} (ho : ∀ p ∈ l, OpOK p.o) (i : Nat) : Live (0 + (l.take i).length) (zp9 (ses0 u) (l.take i)) :=
 Live.run (l.take i) (zkr hs) fun p hp => ho p (List.mem_of_mem_take hp)
theorem zwd (s : Ses) (l : List Ky) {i : Nat} (hi : i < l.length) : zp9 s (l.take (i + 1)) = z5v (zp9 s (l.take i)) l[i] := by
 rw [List.take_succ_eq_append_getElem hi, zks]
theorem oc_typed (u : T) (hs : standsT u = true) (hb : (z0k u).any ztz = false) (l : List Ky) (hl : l.length <= 16) (ho : ∀ p ∈ l, OpOK p.o) :
  OC Tryz.prog 19 [z0i u, zb8 l] [edO (zp9 (ses0 u) l), stO (zp9 (ses0 u) l)] (.tup [.ptr 0 0, .ptr 1 0, .bool true]) := by
 have c1 := zy8 u hs hb
 refine zan (by simp only [pureD.pureL, z01, zdp, Bool.and_self]) rfl (fun o h => by
  simp only [List.mem_cons, List.mem_nil_iff, or_false] at h
  rcases h with rfl | rfl
  ·exact z4h _
  ·exact zbh _) (z12 [] Tryz.func19 rfl (by decide +kernel) z0g (by decide +kernel) (by simp [Tryz.ntmps19]) ?_)
 show awp _ _ (Code.seq _ _) _ _
 rw [show Tryz.f19.results.toList = [.tmp 4, .tmp 5, .tmp 6] from rfl]
 repeat' (first | ((first | refine z1m (N := 2) rfl fun K hK => ?_ | refine z7k (c1) ?_); (simp (disch := omega) only [go_sem, Nat.reduceBEq, ↓reduceIte, Nat.reduceAdd, Nat.reduceLeDiff, z0i])) | (refine hK _ ?_; clear hK K))
 refine z1k fun K hK => ?_
 (try (simp (disch := omega) only [go_sem, Nat.reduceBEq, ↓reduceIte, Nat.reduceAdd, Nat.reduceLeDiff, zm3])); repeat' skip
 refine hK _ _ (z6i (b := 2) (e := 61) (cs' := z36 (ses0 u)) (by (simp (disch := omega) only [go_sem, Nat.reduceBEq])) (le_state u)) ?_
 clear hK K
 repeat' (first | refine nxt ?_ | ((refine zqh fun K hK => ?_); (simp (disch := omega) only [go_sem, Nat.reduceBEq, ↓reduceIte])) | ((refine zqd _ rfl (fun hc => ?_) (fun hc => ?_)) <;> (first | (cases hc; done) | ((try simp only [] at hc); (try (exfalso; omega))))) | (refine hK _ ?_; clear hK K))
 (refine z3r (fun mz st => ∃ (i : _), mz = l.length - i /\ st.t 1 = zb8 l /\ st.t 7 = .ptr 1 0 /\ st.t 9 = .ptr 2 0 /\ st.t 10 = .int .i64 i /\ st.H 1 = some (edO (zp9 (ses0 u) (l.take i))) /\ st.H 2 = some (stO (zp9 (ses0 u) (l.take i))) /\ (i <= l.length) /\ (3 <= st.nx)) ?_ ?_); rotate_left; (rintro mz st ⟨i, rfl, q1, q7, q9, q10, qH1, qH2, qp0, qp1⟩); rotate_left
 ·(refine ⟨_, 0, rfl, ?_⟩); (simp (disch := omega) only [go_sem, Nat.reduceBEq, Nat.reduceLeDiff, true_and, and_true, and_self, Int.natCast_zero, List.take_zero])
  exact ⟨rfl, rfl⟩
 by_cases hi : i < l.length
 ·have hlv := zpw hs ho i
  have hp := ho _ (List.getElem_mem hi)
  have c2 := zzx hlv (by rw [List.length_take]; omega) l[i] hp (i := 1) (j := 2) (by decide)
  rw [<- zwd _ _ hi] at c2
  repeat' (first | refine nxt ?_ | ((first | refine zqh fun K hK => ?_ | refine zqr fun K hK => ?_ | ((refine callW_dc (c2) ?_ ?_ ?_ ?_ ?_); (focus ((simp (disch := omega) only [go_sem, qH1]); done)); (focus ((simp (disch := omega) only [go_sem, qH2]); done)); (focus (((simp (disch := omega) only [go_sem]); omega))); (focus (((simp (disch := omega) only [go_sem]); omega))))); (simp (disch := omega) only [go_sem, Nat.reduceBEq, ↓reduceIte, reduceCtorEq, Nat.reduceAdd, q1, q7, q9, q10, zb8, zkm, zdo])) | ((first | refine zqd _ rfl (fun hc => ?_) (fun hc => ?_) | refine zqm _ rfl (fun hc => ?_) (fun hc => ?_)) <;> (first | (cases hc; done) | ((try simp only [z08] at hc); (try (exfalso; omega))))) | (refine hK _ ?_; clear hK K))
  (refine Exists.intro _ (And.intro ?_ ⟨i + 1, rfl, ?_⟩)); rotate_left; (simp (disch := omega) only [go_sem, Nat.reduceBEq, q1, q7, q9, q10, qH1, qH2, true_and, Int.natCast_add, Int.natCast_one]); rotate_left
  all_goals (repeat' (omega))
 ·have hie : i = l.length := by omega
  subst hie
  rw [List.take_length] at qH1 qH2
  repeat' (first | refine nxt ?_ | ((refine zqh fun K hK => ?_); (simp (disch := omega) only [go_sem, Nat.reduceBEq, ↓reduceIte, q1, q7, q9, q10, zb8])) | ((refine zqd _ rfl (fun hc => ?_) (fun hc => ?_)) <;> (((try simp only [z08] at hc); (try (exfalso; omega))))) | refine zqz ?_ | refine zqu (by (simp (disch := omega) only [go_sem, Nat.reduceBEq]); rfl) rfl ?_ | (refine hK _ ?_; clear hK K))
  refine ⟨fun j => 1 + j, fun i j _ _ h => Nat.add_left_cancel h, ?_, fun j hj => ?_⟩
  ·(simp (disch := omega) only [go_sem, Nat.reduceAdd, renD])
  ·match j, hj with
   | 0, _ => (simp (disch := omega) only [go_sem, qH1])
   | 1, _ => (simp (disch := omega) only [go_sem, Nat.reduceAdd, qH2])
end Go.Proofs.YtlfohdkfpdkhhaaGreatDoor
namespace Go.Proofs.YtlfohdkfpdkhhaaGreatDoor
open Abs Facts Tr
namespace Tr
def z9o (s : Ses) (j : Nat) : Ses := ⟨s.base, s.dn.take (s.dn.length - j), s.dn.drop (s.dn.length - j) ++ s.un⟩
theorem zkn (s : Ses) : z9o s 0 = s := by unfold z9o; simp
theorem zp4 (s : Ses) : z9o s s.dn.length = ⟨s.base, [], s.dn ++ s.un⟩ := by unfold z9o; simp
theorem zu3 (s : Ses) {j : Nat} (h : j < s.dn.length) : ∃ o, z9o s j = ⟨s.base, s.dn.take (s.dn.length - (j + 1)) ++ [o], s.dn.drop (s.dn.length - j) ++ s.un⟩ /\
  z9o s (j + 1) = ⟨s.base, s.dn.take (s.dn.length - (j + 1)), o :: (s.dn.drop (s.dn.length - j) ++ s.un)⟩ := by
 have hk : s.dn.length - (j + 1) < s.dn.length := by omega
 have h1 := List.take_succ_eq_append_getElem hk
 have h2 : s.dn.drop (s.dn.length - (j + 1)) = s.dn[s.dn.length - (j + 1)] :: s.dn.drop (s.dn.length - (j + 1) + 1) := List.drop_eq_getElem_cons hk
 rw [show s.dn.length - (j + 1) + 1 = s.dn.length - j by omega] at h1 h2
 refine ⟨s.dn[s.dn.length - (j + 1)], ?_, ?_⟩
 ·unfold z9o; rw [h1]
 ·unfold z9o; rw [h2]; rfl
theorem zu4 (s : Ses) {j : Nat} (h : j < s.dn.length) : z5l (z9o s j) = (true, z9o s (j + 1)) := by
 obtain ⟨o, e1, e2⟩ := zu3 s h
 rw [e1, e2]; unfold z5l; simp
theorem zu5 (s : Ses) {j : Nat} (h : j < s.dn.length) : z6l (z9o s (j + 1)) = (true, z9o s j) := by
 obtain ⟨o, e1, e2⟩ := zu3 s h
 rw [e1, e2]; rfl
theorem zys (b : T) (u : List Deed) : z5l ⟨b, [], u⟩ = (false, ⟨b, [], u⟩) := rfl
end Tr
theorem Live.back {n : Nat} {s : Ses} (h : Live n s) (j : Nat) : Live n (z9o s j) := by
 have e : (z9o s j).dn ++ (z9o s j).un = s.dn ++ s.un := by
  show s.dn.take _ ++ (s.dn.drop _ ++ s.un) = _
  rw [<- List.append_assoc, List.take_append_drop]
 refine ⟨⟨h.ok.st, ?_⟩, fun o ho => h.ops o (by rw [<- e]; exact ho), ?_⟩
 ·rw [e]; exact h.ok.ok
 ·have h3 := h.len
  have h4 := congrArg List.length e
  simp only [List.length_append] at h4
  omega
end Go.Proofs.YtlfohdkfpdkhhaaGreatDoor
namespace Go.Proofs.YtlfohdkfpdkhhaaGreatDoor
open Abs Facts Tr
attribute [local irreducible] awp
set_option maxRecDepth 100000
theorem ztc (u : T) (hfu : fitB u = true) (l : List Ky) (hl : l.length <= 606627104962) (hr : ∀ q ∈ l, RdO q.o) : PC Tryz.prog 4 [z0i u, zb8 l] (.bool true) := by
 have c0 := zsv
 have c1 := pc_fewL u hfu l (by omega) fun p hp => (hr p hp).use
 refine z18 1 (by simp only [pureD.pureL, z01, zdp, Bool.and_self]) rfl (z12 [8000002, 4000046, 600046, 900001, 600050, 900000] Tryz.func4 rfl (by decide +kernel) z0g (by decide +kernel) (by simp [Tryz.ntmps4]) ?_)
 show awp _ _ (Code.seq _ _) _ _
 by_cases hf : (decide (l.length <= 16) && zxc u 40 && (l.map (·.o)).all fewO) = true
 ·rw [hf] at c1
  obtain ⟨z1, z2, z3, hl16, ho⟩ := zzc hr hf
  have c2 := pc_MayE u z1 (by omega) (by omega)
  by_cases hm : (!(z0k u).any ztz && standsT u) = true
  ·rw [hm] at c2
   rw [Bool.and_eq_true, Bool.not_eq_true'] at hm
   have c3 := oc_typed u hm.2 hm.1 l hl16 ho
   have hlv := zpw hm.2 ho l.length
   rw [List.take_length] at hlv
   have hn : 0 + l.length <= 100 := by omega
   obtain ⟨s, hs⟩ : ∃ s, s = zp9 (ses0 u) l := ⟨_, rfl⟩
   rw [<- hs] at c3 hlv
   have hbase : s.base = u := by rw [hs, zuj]; rfl
   have hsl := hlv.len
   have c4 := hlv.rcDraft hn 1
   have c5 := hlv.rcLog hn 1
   repeat' (first | refine nxt ?_ | ((first | refine zqh fun K hK => ?_ | refine zqs (c0) ?_ | refine zqs (c1) ?_ | refine zqs (c2) ?_ | refine z7k (c3) ?_ | ((refine z0y (c4 _ _ ?_ ?_) ?_); (focus (((simp (disch := omega) only [go_sem]); done))); (focus ((simp (disch := omega) only [go_sem, Nat.reduceBEq]); done))) | ((refine z0y (c5 _ _ ?_ ?_) ?_); (focus (((simp (disch := omega) only [go_sem]); done))); (focus ((simp (disch := omega) only [go_sem, Nat.reduceBEq]); done)))); (simp (disch := omega) only [go_sem, Nat.reduceBEq, ↓reduceIte, Nat.reduceAdd, Nat.reduceLeDiff, z0i, z2r])) | ((refine zqd _ rfl (fun hc => ?_) (fun hc => ?_)) <;> (first | (cases hc; done) | ((try simp only [] at hc); (try (exfalso; omega))))) | (refine hK _ ?_; clear hK K))
   (refine z3r (fun mz st => ∃ (j : _), mz = s.dn.length - j /\ st.t 2 = .ptr 0 0 /\ st.t 5 = .ptr 1 0 /\ st.t 8 = .ptr 3 0 /\ st.t 9 = .int .i64 s.dn.length /\ st.t 38 = .int .i64 s.dn.length /\ st.t 39 = .int .i64 j /\ st.H 0 = some (.box 27 (z09 u)) /\ st.H 1 = some (edO (z9o s j)) /\ st.H 3 = some (.box 27 (z09 s.draft)) /\ (j <= s.dn.length) /\ (4 <= st.nx)) ?_ ?_); rotate_left; (rintro mz st ⟨j, rfl, q2, q5, q8, q9, q38, q39, qH0, qH1, qH3, qp0, qp1⟩); rotate_left
   ·(refine ⟨_, 0, rfl, ?_⟩); (simp (disch := omega) only [go_sem, Nat.reduceBEq, Nat.reduceLeDiff, and_self, Int.natCast_zero, zkn])
    all_goals (repeat' skip)
   by_cases hj : j < s.dn.length
   ·have t1 := (hlv.back j).tcUndo hn 1
    rw [zu4 s hj] at t1
    repeat' (first | ((first | refine zqh fun K hK => ?_ | refine zqr fun K hK => ?_ | ((refine z5u (t1) ?_ ?_ ?_); (focus ((simp (disch := omega) only [go_sem, qH1]); done)); (focus (((simp (disch := omega) only [go_sem]); omega))))); (simp (disch := omega) only [go_sem, Nat.reduceBEq, ↓reduceIte, q5, q38, q39])) | ((first | refine zqd _ rfl (fun hc => ?_) (fun hc => ?_) | refine zqm _ rfl (fun hc => ?_) (fun hc => ?_)) <;> (first | (cases hc; done) | ((try simp only [z08] at hc); (try (exfalso; omega))))) | refine nxt ?_ | (refine hK _ ?_; clear hK K))
    (refine Exists.intro _ (And.intro ?_ ⟨j + 1, rfl, ?_⟩)); rotate_left; (simp (disch := omega) only [go_sem, Nat.reduceBEq, q2, q5, q8, q9, q38, q39, qH0, qH1, qH3, true_and, Int.natCast_add, Int.natCast_one]); rotate_left
    all_goals (repeat' (omega))
   have hje : j = s.dn.length := by omega
   subst hje
   have lb := hlv.back s.dn.length
   rw [zp4] at qH1 lb
   have t1 := lb.tcUndo hn 1
   rw [zys] at t1
   have t2 := lb.rcDraft hn 1
   rw [show Ses.draft ⟨s.base, [], s.dn ++ s.un⟩ = u from hbase] at t2
   have t3 := lb.rcLog hn 1
   have t4 := zj2 u z1 u z1
   rw [decide_eq_true rfl] at t4
   repeat' (first | refine nxt ?_ | ((first | refine zqh fun K hK => ?_ | refine zqe (by decide +kernel) fun K hK => ?_ | ((refine zco (t1) ?_ rfl rfl rfl (by decide) ?_ ?_); (focus ((simp (disch := omega) only [go_sem, qH1]); done)); (focus (((simp (disch := omega) only [go_sem, ↓reduceIte, Nat.reduceLeDiff]); omega)))) | ((refine zf8 (t2 _ _ ?_ ?_) rfl ?_); (focus (((simp (disch := omega) only [go_sem]); omega))); (focus ((simp (disch := omega) only [go_sem, qH1]); done))) | ((refine zf8 (t3 _ _ ?_ ?_) rfl ?_); (focus (((simp (disch := omega) only [go_sem]); omega))); (focus ((simp (disch := omega) only [go_sem, qH1]); done))) | refine zqt (t4) ?_); (simp (disch := omega) only [go_sem, Nat.reduceBEq, Nat.reduceEqDiff, ↓reduceIte, Nat.reduceAdd, Nat.reduceLeDiff, q2, q5, q9, q38, q39, qH0, z0i, z2r])) | ((refine zqd _ rfl (fun hc => ?_) (fun hc => ?_)) <;> (first | (cases hc; done) | ((try simp only [z08] at hc); (try (exfalso; omega))))) | refine zqz ?_ | (refine hK _ ?_; clear hK K))
   (refine z3r (fun mz st => ∃ (k : _), mz = s.dn.length - k /\ st.t 2 = .ptr 0 0 /\ st.t 5 = .ptr 1 0 /\ st.t 8 = .ptr 3 0 /\ st.t 9 = .int .i64 s.dn.length /\ st.t 60 = .int .i64 s.dn.length /\ st.t 61 = .int .i64 k /\ st.H 0 = some (.box 27 (z09 u)) /\ st.H 1 = some (edO (z9o s (s.dn.length - k))) /\ st.H 3 = some (.box 27 (z09 s.draft)) /\ (k <= s.dn.length) /\ (4 <= st.nx)) ?_ ?_); rotate_left; (rintro mz st ⟨k, rfl, r2, r5, r8, r9, r60, r61, rH0, rH1, rH3, rp0, rp1⟩); rotate_left
   ·(refine ⟨_, 0, rfl, ?_⟩); (simp (disch := omega) only [go_sem, Nat.reduceBEq, q2, q5, q8, q9, qH0, qH1, qH3, true_and, Int.natCast_zero, Nat.sub_zero, zp4])
    all_goals (repeat' (omega))
   by_cases hk : k < s.dn.length
   ·have t1 := (hlv.back (s.dn.length - k)).tcRedo hn 1
    have e1 := zu5 s (j := s.dn.length - (k + 1)) (by omega)
    rw [show s.dn.length - (k + 1) + 1 = s.dn.length - k by omega] at e1
    rw [e1] at t1
    repeat' (first | ((first | refine zqh fun K hK => ?_ | refine zqr fun K hK => ?_ | ((refine z5u (t1) ?_ ?_ ?_); (focus ((simp (disch := omega) only [go_sem, rH1]); done)); (focus (((simp (disch := omega) only [go_sem]); omega))))); (simp (disch := omega) only [go_sem, Nat.reduceBEq, ↓reduceIte, r5, r60, r61])) | ((first | refine zqd _ rfl (fun hc => ?_) (fun hc => ?_) | refine zqm _ rfl (fun hc => ?_) (fun hc => ?_)) <;> (first | (cases hc; done) | ((try simp only [z08] at hc); (try (exfalso; omega))))) | refine nxt ?_ | (refine hK _ ?_; clear hK K))
    (refine Exists.intro _ (And.intro ?_ ⟨k + 1, rfl, ?_⟩)); rotate_left; (simp (disch := omega) only [go_sem, Nat.reduceBEq, r2, r5, r8, r9, r60, r61, rH0, rH1, rH3, true_and, Int.natCast_add, Int.natCast_one]); rotate_left
    all_goals (repeat' (omega))
   have hke : k = s.dn.length := by omega
   subst hke
   rw [Nat.sub_self, zkn] at rH1
   have t5 := hlv.rcDraft hn 1
   have t6 := hlv.rcLog hn 1
   obtain ⟨w1, _, _⟩ := hlv.dsz hn
   have t7 := zj2 s.draft w1 s.draft w1
   rw [decide_eq_true rfl] at t7
   repeat' (first | ((first | refine zqh fun K hK => ?_ | refine zqe (by decide +kernel) fun K hK => ?_ | ((refine zf8 (t5 _ _ ?_ ?_) rfl ?_); (focus (((simp (disch := omega) only [go_sem]); omega))); (focus ((simp (disch := omega) only [go_sem, rH1]); done))) | ((refine zf8 (t6 _ _ ?_ ?_) rfl ?_); (focus (((simp (disch := omega) only [go_sem]); omega))); (focus ((simp (disch := omega) only [go_sem, rH1]); done))) | refine zqt (t7) ?_); (simp (disch := omega) only [go_sem, Nat.reduceBEq, Nat.reduceEqDiff, ↓reduceIte, Nat.reduceAdd, Nat.reduceLeDiff, r5, r8, r9, r60, r61, rH3, z0i, z2r])) | ((refine zqd _ rfl (fun hc => ?_) (fun hc => ?_)) <;> (((try simp only [z08] at hc); (try (exfalso; omega))))) | refine nxt ?_ | refine zqz ?_ | refine zqu (by (simp (disch := omega) only [go_sem]); rfl) rfl ?_ | (refine hK _ ?_; clear hK K))
   all_goals exact z03 rfl
  ·rw [Bool.not_eq_true] at hm
   rw [hm] at c2
   repeat' (first | refine nxt ?_ | ((first | refine zqh fun K hK => ?_ | refine zqs (c0) ?_ | refine zqs (c1) ?_ | refine zqs (c2) ?_); (simp (disch := omega) only [go_sem, Nat.reduceBEq, ↓reduceIte, Nat.reduceAdd, Nat.reduceLeDiff, z0i])) | ((refine zqd _ rfl (fun hc => ?_) (fun hc => ?_)) <;> (first | (cases hc; done) | ((try simp only [] at hc); (try (exfalso; omega))))) | refine zqu (by (simp (disch := omega) only [go_sem]); rfl) rfl ?_ | (refine hK _ ?_; clear hK K))
   exact z03 rfl
 ·rw [Bool.not_eq_true] at hf
  rw [hf] at c1
  repeat' (first | refine nxt ?_ | ((first | refine zqh fun K hK => ?_ | refine zqs (c0) ?_ | refine zqs (c1) ?_); (simp (disch := omega) only [go_sem, Nat.reduceBEq, ↓reduceIte, Nat.reduceAdd, Nat.reduceLeDiff, z0i])) | ((refine zqd _ rfl (fun hc => ?_) (fun hc => ?_)) <;> (first | (cases hc; done) | ((try simp only [] at hc); (try (exfalso; omega))))) | refine zqu (by (simp (disch := omega) only [go_sem]); rfl) rfl ?_ | (refine hK _ ?_; clear hK K))
  exact z03 rfl
end Go.Proofs.YtlfohdkfpdkhhaaGreatDoor
