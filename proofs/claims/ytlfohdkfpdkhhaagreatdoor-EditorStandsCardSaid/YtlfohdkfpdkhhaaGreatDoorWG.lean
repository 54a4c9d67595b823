import Derived.Test.YtlfohdkfpdkhhaaGreatDoorWF
import Derived.SizedLaws
/-
 Lemmas of the claim. No condition but those that each names.
-/
set_option linter.unusedSimpArgs false
set_option linter.unusedVariables false
set_option maxHeartbeats 8000000
set_option linter.unusedSectionVars false
namespace Go.Proofs.YtlfohdkfpdkhhaaGreatDoor
section
open Abs Facts Tr
attribute [local irreducible] awp
set_option maxRecDepth 100000
theorem pc_OwnR (i : Idv) : PC Tryz.prog 35 [z1c i] (.bool (zu6 i)) := by
 refine z1a 1 rfl rfl (z10 [] Tryz.func35 rfl (by decide +kernel) z0f (by decide +kernel) (by simp [Tryz.ntmps35]) ?_)
 show awp _ _ (Code.seq _ _) _ _
 repeat' (first | ((refine zqh fun K J => ?_); (simp (disch := omega) only [go_sem, Nat.reduceBEq, ↓reduceIte, reduceCtorEq, Nat.reduceAdd])) | refine nxt ?_ | refine zqu (by (simp (disch := omega) only [go_sem]); rfl) rfl ?_ | (refine J _ ?_; clear J K) | (refine zqf (fun hb => ?_) (fun hb => ?_) <;> (have hb2 := hb; try simp only [z08] at hb2) <;> ((first | have F := eq_false hb2 | have F := eq_true hb2); (simp (disch := omega) only [go_sem, Nat.reduceBEq, ↓reduceIte, reduceCtorEq, Nat.reduceAdd, F]); clear hb F; (try (exfalso; omega)))))
 all_goals (refine z03 ?_; unfold zu6; simp_all)
theorem pc_MayE (t : T) (hz : szB t = true) (hc : cntT t <= 1000000) (V : depT t <= 1000000) : PC Tryz.prog 12 [z0i t] (.bool (!(z0k t).any zu6 && standsT t)) := by
 have c0 := zvl t hz (by omega)
 have c1 := z4c t hz (by omega) (by omega)
 have hil := z2u t
 refine z1a 1 (by simp only [pureD.pureL, z01, Bool.and_self]) rfl (z10 [] Tryz.func12 rfl (by decide +kernel) z0f (by decide +kernel) (by simp [Tryz.ntmps12]) ?_)
 show awp _ _ (Code.seq _ _) _ _
 repeat' (first | refine nxt ?_ | ((first | refine zqh fun K J => ?_ | refine zqs (c0) ?_); (simp (disch := omega) only [go_sem, Nat.reduceBEq, ↓reduceIte, Nat.reduceAdd, Nat.reduceLeDiff, z0i, z2f])) | (refine J _ ?_; clear J K))
 (refine z3t (fun U st => ∃ (i : _), U = (z0k t).length - i /\ st.t 1 = .ptr 0 0 /\ st.t 3 = z2f (z0k t) /\ st.t 4 = .int .i64 i /\ st.H 0 = some (.box 27 (z09 t)) /\ (i <= (z0k t).length) /\ (((z0k t).take i).any zu6 = false)) ?_ ?_); rotate_left; (rintro U st ⟨i, rfl, q1, q3, q4, qH0, qp0, qp1⟩); rotate_left
 ·(refine ⟨_, 0, rfl, ?_⟩); (simp (disch := omega) only [go_sem, Nat.reduceBEq, and_self, Int.natCast_zero, z2f, List.take_zero, List.any_nil])
 by_cases hi : i < (z0k t).length
 ·have c2 := pc_OwnR (z0k t)[i]
  have htk := List.take_succ_eq_append_getElem hi
  by_cases hw : zu6 (z0k t)[i] = true
  ·have ha : (z0k t).any zu6 = true := List.any_eq_true.2 ⟨_, List.getElem_mem hi, hw⟩
   rw [hw] at c2
   repeat' (first | refine nxt ?_ | ((first | refine zqh fun K J => ?_ | refine zqs (c2) ?_); (simp (disch := omega) only [go_sem, Nat.reduceBEq, ↓reduceIte, reduceCtorEq, Nat.reduceAdd, q3, q4, z2f, z1c])) | ((first | refine zqd _ rfl (fun hc => ?_) (fun hc => ?_) | refine zqm _ rfl (fun hc => ?_) (fun hc => ?_)) <;> (first | (cases hc; done) | ((try simp only [z08] at hc); (try (exfalso; omega))))) | refine zqu (by (simp (disch := omega) only [go_sem]); rfl) rfl ?_ | (refine J _ ?_; clear J K))
   exact z03 (by rw [ha]; rfl)
  ·rw [Bool.not_eq_true] at hw
   rw [hw] at c2
   repeat' (first | refine nxt ?_ | ((first | refine zqh fun K J => ?_ | refine zqr fun K J => ?_ | refine zqs (c2) ?_); (simp (disch := omega) only [go_sem, Nat.reduceBEq, ↓reduceIte, reduceCtorEq, Nat.reduceAdd, q3, q4, z2f, z1c])) | ((first | refine zqd _ rfl (fun hc => ?_) (fun hc => ?_) | refine zqm _ rfl (fun hc => ?_) (fun hc => ?_)) <;> (first | (cases hc; done) | ((try simp only [z08] at hc); (try (exfalso; omega))))) | (refine J _ ?_; clear J K))
   (refine Exists.intro _ (And.intro ?_ ⟨i + 1, rfl, ?_⟩)); rotate_left; (simp (disch := omega) only [go_sem, Nat.reduceBEq, q1, q3, q4, qH0, true_and, Int.natCast_add, Int.natCast_one, htk, List.any_append, List.any_cons, List.any_nil, hw]); rotate_left
   all_goals first | omega | exact ⟨by omega, qp1⟩
 ·have hie : i = (z0k t).length := by omega
  subst hie
  rw [List.take_length] at qp1
  rw [qp1]
  repeat' (first | refine nxt ?_ | ((first | refine zqh fun K J => ?_ | refine zqs (c1) ?_); (simp (disch := omega) only [go_sem, Nat.reduceBEq, ↓reduceIte, Nat.reduceAdd, Nat.reduceLeDiff, q1, q3, q4, qH0, z2f])) | ((refine zqd _ rfl (fun hc => ?_) (fun hc => ?_)) <;> (((try simp only [z08] at hc); (try (exfalso; omega))))) | refine zqz ?_ | refine zqu (by (simp (disch := omega) only [go_sem]); rfl) rfl ?_ | (refine J _ ?_; clear J K))
  exact z03 (by simp)
def fewO (o : Deed) : Bool := decide (o.words.length <= 20) && decide (o.label.size <= 40) && zxd o.unit 12 && o.words.all fun w => decide (w.size <= 60)
theorem pc_FewE (l : List Deed) (hl : l.length <= 606627104963) (hw : ∀ o ∈ l, o.words.length <= maxLen /\ o.label.size <= maxLen /\ (∀ w ∈ o.words, w.size <= maxLen) /\ fitB o.unit = true) : PC Tryz.prog 33 [z2j l] (.bool (l.all fewO)) := by
 refine z1a 1 (by simp only [pureD.pureL, z89, Bool.and_self]) rfl (z10 [] Tryz.func33 rfl (by decide +kernel) z0f (by decide +kernel) (by simp [Tryz.ntmps33]) ?_)
 show awp _ _ (Code.seq _ _) _ _
 repeat' (first | refine nxt ?_ | ((refine zqh fun K J => ?_); (simp (disch := omega) only [go_sem, z2j])) | (refine J _ ?_; clear J K))
 (refine z3t (fun U st => ∃ (i : _), U = l.length - i /\ st.t 0 = z2j l /\ st.t 3 = .int .i64 i /\ (i <= l.length) /\ ((l.take i).all fewO = true)) ?_ ?_); rotate_left; (rintro U st ⟨i, rfl, q0, q3, qp0, qp1⟩); rotate_left
 ·(refine ⟨_, 0, rfl, ?_⟩); (simp (disch := omega) only [go_sem, Nat.reduceBEq, and_self, Int.natCast_zero, z2j, List.take_zero, List.all_nil])
 by_cases hi : i < l.length
 ·obtain ⟨hw1, hw2, hw3, hw4⟩ := hw l[i] (List.getElem_mem hi)
  have c1 := pc_Few l[i].unit hw4 12 (by decide) (by decide)
  have htk := List.take_succ_eq_append_getElem hi
  unfold maxLen at hw1 hw2
  have hfl : fewO l[i] = false -> false = l.all fewO := fun h => (List.all_eq_false.2 ⟨l[i], List.getElem_mem hi, by rw [h]; simp⟩).symm
  have hxo : ∀ x ∈ l, fewO x = fewO x := fun _ _ => rfl
  repeat' (first | refine nxt ?_ | ((first | refine zqh fun K J => ?_ | refine zqs (c1) ?_); (simp (disch := omega) only [go_sem, Nat.reduceBEq, ↓reduceIte, reduceCtorEq, Nat.reduceAdd, q0, q3, z2j, z34])) | ((refine zqd _ rfl (fun hc => ?_) (fun hc => ?_)) <;> (first | (cases hc; done) | ((try simp only [z08] at hc); (try (exfalso; omega))))) | refine zqu (by (simp (disch := omega) only [go_sem]); rfl) rfl ?_ | (refine J _ ?_; clear J K) | (refine zqf (fun hb => ?_) (fun hb => ?_) <;> (have hb2 := hb; try simp only [z08] at hb2) <;> ((first | have F := eq_false hb2 | have F := eq_true hb2); (simp (disch := omega) only [go_sem, Nat.reduceBEq, ↓reduceIte, reduceCtorEq, Nat.reduceAdd, Nat.reduceLeDiff, F, q0, q3, z2j, z34]); clear hb F; (try (exfalso; omega)))))
  ·exact z03 (hfl (by unfold fewO; rw [hc]; simp))
  ·have d1 : decide (l[i].words.length <= 20) = true := decide_eq_true (by omega)
   have d2 : decide (l[i].label.size <= 40) = true := decide_eq_true (by omega)
   have hfo : fewO l[i] = l[i].words.all fun w => decide (w.size <= 60) := by unfold fewO; rw [d1, d2, hc]; simp
   (refine z3t (fun U st => ∃ (j : _), U = l[i].words.length - j /\ st.t 0 = z2j l /\ st.t 3 = .int .i64 i /\ st.t 4 = .int .i64 j /\ (j <= l[i].words.length) /\ (((l[i].words.take j).all fun w => decide (w.size <= 60)) = true)) ?_ ?_); rotate_left; (rintro U st ⟨j, rfl, p0, p3, p4, pp0, pp1⟩); rotate_left
   ·(refine ⟨_, 0, rfl, ?_⟩); (simp (disch := omega) only [go_sem, Nat.reduceBEq, q0, q3, and_self, Int.natCast_zero, z2j, List.take_zero, List.all_nil])
   by_cases hj : j < l[i].words.length
   ·have hw5 := hw3 l[i].words[j] (List.getElem_mem hj)
    unfold maxLen at hw5
    have htj := List.take_succ_eq_append_getElem hj
    repeat' (first | refine nxt ?_ | ((first | refine zqh fun K J => ?_ | refine zqr fun K J => ?_); (simp (disch := omega) only [go_sem, Nat.reduceBEq, ↓reduceIte, reduceCtorEq, Nat.reduceAdd, p0, p3, p4, z2j, z34, z2r])) | ((first | refine zqd _ rfl (fun hc => ?_) (fun hc => ?_) | refine zqm _ rfl (fun hc => ?_) (fun hc => ?_)) <;> (((try simp only [z08] at hc); (try (exfalso; omega))))) | refine zqu (by (simp (disch := omega) only [go_sem]); rfl) rfl ?_ | (refine J _ ?_; clear J K))
    ·exact z03 (hfl (by rw [hfo]; exact List.all_eq_false.2 ⟨_, List.getElem_mem hj, by simp; omega⟩))
    ·have d3 : decide (l[i].words[j].size <= 60) = true := decide_eq_true (by omega)
     (refine Exists.intro _ (And.intro ?_ ⟨j + 1, rfl, ?_⟩)); rotate_left; (simp (disch := omega) only [go_sem, Nat.reduceBEq, p0, p3, p4, true_and, and_true, Int.natCast_add, Int.natCast_one, htj, List.all_append, List.all_cons, List.all_nil, d3, pp1]); rotate_left
     all_goals omega
   ·have hje : j = l[i].words.length := by omega
    subst hje
    rw [List.take_length] at pp1
    repeat' (first | refine nxt ?_ | ((first | refine zqh fun K J => ?_ | refine zqr fun K J => ?_); (simp (disch := omega) only [go_sem, Nat.reduceBEq, ↓reduceIte, reduceCtorEq, Nat.reduceAdd, p0, p3, p4, z2j, z34, z2r])) | ((refine zqd _ rfl (fun hc => ?_) (fun hc => ?_)) <;> (((try simp only [z08] at hc); (try (exfalso; omega))))) | refine zqz ?_ | (refine J _ ?_; clear J K))
    (refine Exists.intro _ (And.intro ?_ ⟨i + 1, rfl, ?_⟩)); rotate_left; (simp (disch := omega) only [go_sem, Nat.reduceBEq, true_and, Int.natCast_add, Int.natCast_one, p0, p3, htk, List.all_append, List.all_cons, List.all_nil, hfo, pp1]); rotate_left
    all_goals first | omega | exact ⟨by omega, qp1⟩
  ·exact z03 (hfl (by unfold fewO; rw [decide_eq_false (show ¬ l[i].label.size <= 40 by omega)]; simp))
  ·exact z03 (hfl (by unfold fewO; rw [decide_eq_false (show ¬ l[i].words.length <= 20 by omega)]; simp))
 ·have hie : i = l.length := by omega
  subst hie
  rw [List.take_length] at qp1
  rw [qp1]
  repeat' (first | refine nxt ?_ | ((refine zqh fun K J => ?_); (simp (disch := omega) only [go_sem, Nat.reduceBEq, ↓reduceIte, q0, q3, z2j])) | ((refine zqd _ rfl (fun hc => ?_) (fun hc => ?_)) <;> (((try simp only [z08] at hc); (try (exfalso; omega))))) | refine zqz ?_ | refine zqu (by (simp (disch := omega) only [go_sem]); rfl) rfl ?_ | (refine J _ ?_; clear J K))
  exact z03 rfl
structure Ky where
 k : Int
 o : Deed
def z7u (p : Ky) : List D := .int .u8 p.k :: z1e p.o
def zhi (p : Ky) : D := .agg (z7u p)
def z8g (l : List Ky) : D := .rsl false 19 (l.map zhi)
theorem z8h (p : Ky) : (z7u p).length = 19 := by unfold z7u; rw [List.length_cons, z45]
theorem zck (p : Ky) : pureD (zhi p) = true := by
 show pureD.pureL (.int .u8 p.k :: z1e p.o) = true
 simp only [pureD.pureL, z70, pureD, Bool.and_self]
theorem zdt (l : List Ky) : pureD (z8g l) = true := z0s (f := zhi) zck l
theorem zlk (p : Ky) : List.take 18 (List.drop 1 (z7u p)) = z1e p.o := by
 show List.take 18 (z1e p.o) = _
 exact zn8 _
theorem pc_fewL (t : T) (hf : fitB t = true) (l : List Ky) (hl : l.length <= 606627104963) (hw : ∀ p ∈ l, p.o.words.length <= maxLen /\ p.o.label.size <= maxLen /\ (∀ w ∈ p.o.words, w.size <= maxLen) /\ fitB p.o.unit = true) :
  PC Tryz.prog 11 [z0i t, z8g l] (.bool (decide (l.length <= 16) && zxd t 40 && (l.map (·.o)).all fewO)) := by
 have c0 := pc_Few t hf 40 (by decide) (by decide)
 have c1 := pc_FewE (l.map (·.o)) (by rw [List.length_map]; exact hl) (fun o ho => by
  obtain ⟨p, hp, rfl⟩ := List.mem_map.1 ho
  exact hw p hp)
 refine z1a 2 (by simp only [pureD.pureL, z01, zdt, Bool.and_self]) rfl (z10 [7] Tryz.func11 rfl (by decide +kernel) z0f (by decide +kernel) (by simp [Tryz.ntmps11]) ?_)
 show awp _ _ (Code.seq _ _) _ _
 repeat' (first | refine nxt ?_ | ((refine zqh fun K J => ?_); (simp (disch := omega) only [go_sem, Nat.reduceBEq, ↓reduceIte, reduceCtorEq, Nat.reduceAdd, Nat.reduceMul, z0i])) | (refine J _ ?_; clear J K))
 (refine z3t (fun U st => ∃ (i : _), U = l.length - i /\ st.t 1 = z8g l /\ st.t 2 = .ptr 0 0 /\ st.t 5 = .osl 1 i /\ st.t 6 = .int .i64 i /\ st.H 0 = some (.box 27 (z09 t)) /\ st.H 1 = some (.row 32 i ((l.take i).flatMap fun p => z1e p.o)) /\ (i <= l.length) /\ (2 <= st.nx)) ?_ ?_); rotate_left; (rintro U st ⟨i, rfl, q1, q2, q5, q6, qH0, qH1, qp0, qp1⟩); rotate_left
 ·(refine ⟨_, 0, rfl, ?_⟩); (simp (disch := omega) only [go_sem, Nat.reduceBEq, Nat.reduceLeDiff, and_self, Int.natCast_zero, List.flatMap_nil, z8g])
 by_cases hi : i < l.length
 ·have htk := List.take_succ_eq_append_getElem hi
  repeat' (first | refine nxt ?_ | ((first | refine zqh fun K J => ?_ | refine zqr fun K J => ?_); (simp (disch := omega) only [go_sem, Nat.reduceBEq, ↓reduceIte, reduceCtorEq, Nat.reduceAdd, Nat.reduceMul, Nat.reduceLeDiff, q1, q5, q6, qH1, z8g, zhi, z8h, zlk])) | ((refine zqd _ rfl (fun hc => ?_) (fun hc => ?_)) <;> (((try simp only [z08] at hc); (try (exfalso; omega))))) | (refine J _ ?_; clear J K))
  (refine Exists.intro _ (And.intro ?_ ⟨i + 1, rfl, ?_⟩)); rotate_left; (simp (disch := omega) only [go_sem, Nat.reduceBEq, q1, q2, q5, q6, qH0, qH1, true_and, Int.natCast_add, Int.natCast_one, List.flatMap_append, List.flatMap_cons, List.flatMap_nil, List.append_nil, htk]); rotate_left
  all_goals first | omega | exact ⟨by omega, by omega⟩
 ·have hie : i = l.length := by omega
  subst hie
  rw [List.take_length] at qH1
  have hfl : (l.flatMap fun p => z1e p.o) = (l.map (·.o)).flatMap z1e := by rw [List.flatMap_map]
  rw [hfl] at qH1
  have u0 : pureD.pureL ((l.map (·.o)).flatMap z1e) = true := z6t _
  have v0 : z1x true 18 l.length ((l.map (·.o)).flatMap z1e) = (l.map (·.o)).map z34 := by
   have := z5x (l.map (·.o))
   rwa [List.length_map] at this
  repeat' (first | refine nxt ?_ | ((refine zqh fun K J => ?_); (simp (disch := omega) only [go_sem, Nat.reduceBEq, ↓reduceIte, q1, q6, z8g])) | ((refine zqd _ rfl (fun hc => ?_) (fun hc => ?_)) <;> (((try simp only [z08] at hc); (try (exfalso; omega))))) | (refine J _ ?_; clear J K))
  refine zqz (zfr _ (zjb (P := Tryz.prog) (id := 1) (by exact qH1) (by decide +kernel) u0) ?_)
  have hsu : (z09 t).map (zhf Tryz.prog 1 32 l.length ((l.map (·.o)).flatMap z1e)) = z09 t := z8d _ (z04 t)
  have c1' : PC Tryz.prog 33 [.rsl false 18 ((l.map (·.o)).map z34)] (.bool ((l.map (·.o)).all fewO)) := c1
  rw [List.map_map] at c1'
  repeat' (first | ((first | refine zqh fun K J => ?_ | refine zqs (c0) ?_ | refine zqs (c1') ?_); (simp (disch := omega) only [go_sem, Nat.reduceBEq, ↓reduceIte, q1, z8g, v0])) | refine nxt ?_ | refine zqu (by (simp (disch := omega) only [go_sem]); rfl) rfl ?_ | (refine J _ ?_; clear J K) | (refine zqf (fun hb => ?_) (fun hb => ?_) <;> (have hb2 := hb; try simp only [z08] at hb2) <;> ((first | have F : (_ : Bool) = _ := hb2 | have F := eq_false hb2 | have F := eq_true hb2); (simp (disch := omega) only [go_sem, Nat.reduceBEq, ↓reduceIte, Nat.reduceAdd, Nat.reduceLeDiff, hb, F, q2, q5, qH0, v0, hsu]); clear hb F; (try (exfalso; omega)))))
  ·refine ⟨_, z02 1 rfl, ?_⟩
   rw [decide_eq_true (show l.length <= 16 by omega), show zxd t 40 = true from by assumption]
   exact Le.refl _
  ·refine ⟨_, z02 1 rfl, ?_⟩
   rw [show zxd t 40 = false from by assumption, Bool.and_false, Bool.false_and]
   exact Le.refl _
  ·refine ⟨_, z02 1 rfl, ?_⟩
   rw [decide_eq_false (show ¬ l.length <= 16 by omega), Bool.false_and, Bool.false_and]
   exact Le.refl _
end
end Go.Proofs.YtlfohdkfpdkhhaaGreatDoor
namespace Go.Proofs.YtlfohdkfpdkhhaaGreatDoor.Abs
open Go.RowKit
variable {P : Program}
def Sem (P : Program) (N : Nat) (c : Code) (Q : Exit -> St -> Prop) (st : St) : Prop :=
 ∀ s0 w0 s a w, Fr P N st s a w -> Step s0 w0 s w -> c.wp P (lift P N s0 w0 Q) a w
theorem Sem.walk {N : Nat} {own : List Nat} {c : Code} {Q : Exit -> St -> Prop} {st : St} (hm : P.follows .mixedOrders = true) (hok : z9o N c = true) (h : awp P own c Q st) : Sem P N c Q st :=
 fun _ _ s a w hf hs => z61 hm c Q st s a w hok h hf hs
theorem Sem.seq {N : Nat} {x y : Code} {Q : Exit -> St -> Prop} {st : St} (h : Sem P N x (zu5 (fun st => Sem P N y Q st) Q) st) : Sem P N (.seq x y) Q st := by
 intro s0 w0 s a w hf hs
 refine wp_seq (wp_mono (h s0 w0 s a w hf hs) ?_)
 rintro e a' w' ⟨st', s', hq, hf', hs'⟩
 cases e with
 | normal => exact hq s0 w0 s' a' w' hf' hs'
 | exit id => exact ⟨st', s', hq, hf', hs'⟩
 | goto l => exact ⟨st', s', hq, hf', hs'⟩
 | ret => exact ⟨st', s', hq, hf', hs'⟩
 | panic ch => exact ⟨st', s', hq, hf', hs'⟩
 | outgrown => exact ⟨st', s', hq, hf', hs'⟩
theorem Sem.cond {N : Nat} {c : Operand} {x y : Code} {Q : Exit -> St -> Prop} {st : St} (t : Bool) (ht : st.ev c = .bool t) (h1 : t = true -> Sem P N x Q st) (h2 : t = false -> Sem P N y Q st) : Sem P N (.cond c x y) Q st := by
 intro s0 w0 s a w hf hs
 have hv := hf.ev c
 rw [ht] at hv
 simp only [rel] at hv
 exact wp_cond_split hv (fun e => h1 e s0 w0 s a w hf hs) (fun e => h2 e s0 w0 s a w hf hs)
section
variable {st : St} {dst : Option Nat} {n : FuncId} {cap args : List D} {g : List Oper -> (St -> Prop) -> St -> Prop} {rest : List Oper} {K : St -> Prop}
def DC (P : Program) (f : FuncId) (ds : List D) (i j : Nat) (a a' b b' : HObj) (r : D) : Prop := ∀ H nx, i < nx -> j < nx -> H i = some a -> H j = some b -> AC P f ds H nx fun r' H2 n2 => r' = r /\ H2 = z13 (z13 H i (some a')) j (some b') /\ n2 = nx
theorem callW_dc {i j : Nat} {a a' b b' : HObj} {r : D} (h : DC P n (args ++ cap) i j a a' b b' r) (hi : st.H i = some a) (hj : st.H j = some b) (h1 : i < st.nx) (h2 : j < st.nx)
  (O : g rest K ((st.withH (z13 (z13 st.H i (some a')) j (some b')) st.nx).put dst r)) : zjt P (.fn n cap) args g rest K st dst :=
 z98 ((h st.H st.nx h1 h2 hi hj).mono fun r' H2 n2 ⟨h1, h2, h3⟩ => by subst h1; subst h2; subst h3; exact O)
theorem zri {i : Nat} {a : HObj} {objs : List HObj} {r : D} (h : ∀ H nx, i < nx -> H i = some a -> AC P n (args ++ cap) H nx fun r' H' nx' => r' = renD (fun j => nx + j) r /\ H' = zjc H nx objs /\ nx' = nx + objs.length) (hi : st.H i = some a) (h1 : i < st.nx)
  (O : g rest K ((st.withH (zjc st.H st.nx objs) (st.nx + objs.length)).put dst (renD (fun j => st.nx + j) r))) : zjt P (.fn n cap) args g rest K st dst :=
 z98 ((h st.H st.nx h1 hi).mono fun r' H2 n2 ⟨h1, h2, h3⟩ => by subst h1; subst h2; subst h3; exact O)
end
end Go.Proofs.YtlfohdkfpdkhhaaGreatDoor.Abs
namespace Go.Proofs.YtlfohdkfpdkhhaaGreatDoor.Abs
open Go.RowKit
variable {P : Program}
mutual
theorem zo7 : ∀ d : D, renD (fun j => j) d = d
 | .agg ds => by simp only [renD, zju ds]
 | .tup ds => by simp only [renD, zju ds]
 | .osl _ _ | .ptr _ _ | .mp _ | .any | .int _ _ | .bool _ | .str _ | .nil | .nptr | .nfun | .nmp | .e0 | .rsl _ _ _ | .rptr _ | .fsl _ _ | .fn _ _ | .eptr _ _ _ | .it _ => rfl
theorem zju : ∀ ds : List D, renD.renL (fun j => j) ds = ds
 | [] => rfl
 | d :: ds => by simp only [renD.renL, zo7 d, zju ds]
end
theorem zq2 (g : Nat -> Nat) : ∀ ds : List D, renD.renL g ds = ds.map (renD g)
 | [] => rfl
 | d :: ds => by simp only [renD.renL, List.map_cons, zq2 g ds]
noncomputable def zgg (s s3 : RS) (φ σ : Nat -> Nat) (n p : Nat) : RS :=
 {m := s3.m
  κ := fun i => @dite _ (∃ j, j < n /\ φ j = i) (Classical.propDecidable _) (fun h => s3.κ (σ h.choose)) (fun _ => s.κ i)
  H := fun i => @dite _ (∃ j, j < n /\ φ j = i) (Classical.propDecidable _) (fun h => s3.H (σ h.choose)) (fun _ => s.H i)
  nx := s.nx + p }
theorem zjv {f : FuncId} {ds : List D} {objs0 objs1 objs2 : List HObj} {r : D} {m n p : Nat} (hm : objs0.length = m) (hl : objs1.length = m) (hp : objs2.length = p) (hn : n = m + p)
  (hds : okD.okL m ds = true) (hr : okD n r = true) (ho0 : ∀ o ∈ objs0, z31 o = true) (ho1 : ∀ o ∈ objs1 ++ objs2, z31 o = true)
  (h : AC P f ds (fun i => objs0[i]?) m fun d H' _ => ∃ σ : Nat -> Nat, (∀ j, j < m -> σ j = j) /\ (∀ i j, i < n -> j < n -> σ i = σ j -> i = j) /\ d = renD σ r /\ ∀ j, j < n -> H' (σ j) = (objs1 ++ objs2)[j]?)
  {τ : Nat -> Nat} (hτ : ∀ i j, i < m -> j < m -> τ i = τ j -> i = j) {H : HM} {nx : Nat} (hnx : ∀ j, j < m -> τ j < nx) (hH : ∀ j, j < m -> H (τ j) = objs0[j]?) :
  AC P f (ds.map (renD τ)) H nx fun r' H2 n2 => r' = renD (fun j => if j < m then τ j else nx + (j - m)) r /\ (∀ j, j < m -> H2 (τ j) = objs1[j]?) /\ (∀ j, j < p -> H2 (nx + j) = objs2[j]?) /\
   (∀ i, (∀ j, j < m -> τ j ≠ i) -> ¬ (nx <= i /\ i < nx + p) -> H2 i = H i) /\ n2 = nx + p := by
 refine ⟨h.1, fun s w vs e1 e2 hRH hrel => ?_⟩
 subst e1; subst e2
 let s2 : RS := { m := s.m, κ := fun i => s.κ (τ i), H := fun i => objs0[i]?, nx := m }
 have h2lt : ∀ i, s2.H i ≠ none -> i < m := fun i hi => by
  rcases Nat.lt_or_ge i m with h9 | h9
  ·exact h9
  ·exact (hi (List.getElem?_eq_none (by omega))).elim
 have h2H : ∀ i, i < m -> s2.H i = s.H (τ i) := fun i hi => (hH i hi).symm
 have hlive0 : ∀ j, j < m -> s.H (τ j) ≠ none := fun j hj => by rw [hH j hj, List.getElem?_eq_getElem (by omega)]; simp
 have hown2 : ∀ k, owned s2 k -> owned s k := by
  rintro k ⟨i, hi, hHi, hb⟩
  exact ⟨τ i, hnx i hi, hlive0 i hi, hb⟩
 have hRH2 : RH P s2 w := by
  refine ⟨fun a u hmm => ⟨(hRH.mem a u hmm).1, fun ho => (hRH.mem a u hmm).2 (hown2 _ ho)⟩, fun i o ho => ?_, fun i j hi hj hij hb => ?_, fun g => z1y (s := s) (s' := s2) (fun a v hm => hm) _ _ (z4r g) (hRH.glob g)⟩
  ·have hi := h2lt i (by rw [ho]; simp)
   have ho' : s.H (τ i) = some o := by rw [<- h2H i hi]; exact ho
   refine ⟨hi, objOK.pure (s := s) (s' := s2) (fun _ _ h => h) (ho0 o ?_) (hRH.obj _ o ho').2⟩
   exact List.mem_of_getElem? (by rw [<- hH i hi]; exact ho')
  ·have hi' := h2lt i hi
   have hj' := h2lt j hj
   exact hRH.apart (τ i) (τ j) (hlive0 i hi') (hlive0 j hj') (fun e => hij (hτ i j hi' hj' e)) hb
 have hr2 : relAll s2 ds vs := by
  have := zat (s := s) (s' := s2) (k := m) (σ := τ) (τ := fun j => j) (fun _ _ h => h) (fun j hj => hj) (fun j hj => ⟨h2H j hj, rfl⟩) ds vs hds (by rw [zq2]; exact hrel)
  rwa [zju] at this
 refine (h.2 s2 w vs rfl rfl hRH2 hr2).mono fun e w' ⟨v, d, s3, he, ⟨σ, hσ0, hσ, V, hobj⟩, hstep, hRH3, hres⟩ => ?_
 subst V
 obtain ⟨φ, hφ⟩ : ∃ φ : Nat -> Nat, φ = fun j => if j < m then τ j else s.nx + (j - m) := ⟨_, rfl⟩
 have hφlo : ∀ j, j < m -> φ j = τ j := fun j hj => by rw [hφ]; exact if_pos hj
 have hφhi : ∀ j, ¬ j < m -> φ j = s.nx + (j - m) := fun j hj => by rw [hφ]; exact if_neg hj
 have hφinj : ∀ i j, i < n -> j < n -> φ i = φ j -> i = j := by
  intro i j hi hj e
  by_cases h1 : i < m
  ·by_cases h2 : j < m
   ·rw [hφlo i h1, hφlo j h2] at e; exact hτ i j h1 h2 e
   ·rw [hφlo i h1, hφhi j h2] at e; have := hnx i h1; omega
  ·by_cases h2 : j < m
   ·rw [hφhi i h1, hφlo j h2] at e; have := hnx j h2; omega
   ·rw [hφhi i h1, hφhi j h2] at e; omega
 let s' := zgg s s3 φ σ n p
 have hnew : ∀ j, j < n -> s'.H (φ j) = s3.H (σ j) /\ s'.κ (φ j) = s3.κ (σ j) := by
  intro j hj
  have hex : ∃ j', j' < n /\ φ j' = φ j := ⟨j, hj, rfl⟩
  have hch : hex.choose = j := hφinj _ _ hex.choose_spec.1 hj hex.choose_spec.2
  show (zgg s s3 φ σ n p).H (φ j) = _ /\ (zgg s s3 φ σ n p).κ (φ j) = _
  simp only [zgg]
  rw [dif_pos hex, dif_pos hex, hch]
  exact ⟨rfl, rfl⟩
 have hother : ∀ i, (∀ j, j < n -> φ j ≠ i) -> s'.H i = s.H i /\ s'.κ i = s.κ i := by
  intro i hi
  have hex : ¬ ∃ j', j' < n /\ φ j' = i := fun ⟨j, hj, e⟩ => hi j hj e
  show (zgg s s3 φ σ n p).H i = _ /\ (zgg s s3 φ σ n p).κ i = _
  simp only [zgg]
  rw [dif_neg hex, dif_neg hex]
  exact ⟨rfl, rfl⟩
 have hcase : ∀ i, (∃ j, j < n /\ φ j = i) \/ ∀ j, j < n -> φ j ≠ i := fun i => by
  rcases Classical.em (∃ j, j < n /\ φ j = i) with h1 | h1
  ·exact .inl h1
  ·exact .inr fun j hj e => h1 ⟨j, hj, e⟩
 have hlive3 : ∀ j, j < n -> s3.H (σ j) ≠ none := fun j hj => by rw [hobj j hj, List.getElem?_eq_getElem (by rw [List.length_append]; omega)]; simp
 -- an object of the caller's that the callee does not see
 have hfar : ∀ i, (∀ j, j < n -> φ j ≠ i) -> s.H i ≠ none -> ∀ b, blockOf (s.κ i) = some b -> b < w.heap.size /\ ¬ owned s2 b := by
  intro i hi hHi b hb
  refine ⟨hRH.owned_lt ⟨i, hRH.fresh hHi, hHi, hb⟩, ?_⟩
  rintro ⟨j, hj, _, hb2⟩
  have hj : j < m := hj
  exact hRH.apart i (τ j) hHi (hlive0 j hj) (fun e => hi j (by omega) (by rw [hφlo j hj, e])) (by rw [hb]; simp) (by rw [hb]; exact hb2.symm)
 have hown : ∀ k, owned s' k -> owned s3 k \/ ∃ i, (∀ j, j < n -> φ j ≠ i) /\ s.H i ≠ none /\ blockOf (s.κ i) = some k := by
  rintro k ⟨i, _, hHi, hb⟩
  rcases hcase i with ⟨j, hj, rfl⟩ | hi
  ·rw [(hnew j hj).2] at hb
   exact .inl ⟨σ j, hRH3.fresh (hlive3 j hj), hlive3 j hj, hb⟩
  ·rw [(hother i hi).1] at hHi; rw [(hother i hi).2] at hb
   exact .inr ⟨i, hi, hHi, hb⟩
 have hown' : ∀ k, owned s' k -> owned s k \/ w.heap.size <= k := fun k O => by
  rcases hown k O with h1 | ⟨i, _, h1, h2⟩
  ·rcases hstep.own k h1 with h3 | h3
   ·exact .inl (hown2 k h3)
   ·exact .inr h3
  ·exact .inl ⟨i, hRH.fresh h1, h1, h2⟩
 have hlater : Later s s' := by
  refine ⟨by show s.nx <= s.nx + p; omega, fun a u hu => hstep.mem a u hu, fun i hi => ?_⟩
  rcases hcase i with ⟨j, hj, rfl⟩ | h1
  ·have hjm : j < m := by
    rcases Nat.lt_or_ge j m with h9 | h9
    ·exact h9
    ·rw [hφhi j (by omega)] at hi; omega
   rw [(hnew j hj).1, (hnew j hj).2, hφlo j hjm, hσ0 j hjm]
   have := hstep.objs j hjm
   rw [h2H j hjm] at this
   exact this
  ·rw [(hother i h1).1, (hother i h1).2]; exact objLe.refl _ _
 refine ⟨v, renD φ r, s', he, ⟨by rw [hφ], fun j hj => ?_, fun j hj => ?_, fun i h1 h2 => ?_, rfl⟩, ?_, ?_, znh (s := s3) (s' := s') (k := n) (fun _ _ h => h) (fun j hj => ?_) hnew r v hr hres⟩
 ·rw [<- hφlo j hj, (hnew j (by omega)).1, hobj j (by omega), List.getElem?_append_left (by omega)]
 ·have := hφhi (m + j) (by omega)
  rw [show m + j - m = j by omega] at this
  rw [<- this, (hnew (m + j) (by omega)).1, hobj _ (by omega), List.getElem?_append_right (by omega)]
  congr 1; omega
 ·refine (hother i fun j hj e => ?_).1
  by_cases h3 : j < m
  ·exact h1 j h3 (by rw [<- hφlo j h3]; exact e)
  ·rw [hφhi j h3] at e; exact h2 ⟨by omega, by omega⟩
 ·refine ⟨hstep.os, hstep.tape, hstep.output, hstep.size, hlater.nx, hlater.mem, fun a u hu => ?_, hlater.objs, fun k O ho => hstep.keep k O (fun h1 => ho (hown2 k h1)), hown'⟩
  rcases hstep.new a u hu with h1 | h1 | h1
  ·exact .inl h1
  ·exact .inr (.inl h1)
  ·exact .inr (.inr (hown2 _ h1))
 ·refine ⟨fun a u hu => ⟨(hRH3.mem a u hu).1, fun ho => ?_⟩, fun i o ho => ?_, fun i j hi hj hij hb => ?_, fun g => rel.later hlater _ _ (hRH.glob g)⟩
  ·rcases hown _ ho with h1 | ⟨i, hi, h1, h2⟩
   ·exact (hRH3.mem a u hu).2 h1
   ·obtain ⟨h3, h4⟩ := hfar i hi h1 _ h2
    rcases hstep.new a u hu with h5 | h5 | h5
    ·exact (hRH.mem a u h5).2 ⟨i, hRH.fresh h1, h1, h2⟩
    ·omega
    ·exact h4 h5
  ·rcases hcase i with ⟨j, hj, rfl⟩ | hi
   ·rw [(hnew j hj).1] at ho
    rw [(hnew j hj).2]
    refine ⟨?_, objOK.pure (s := s3) (s' := s') (fun _ _ h => h) (ho1 o ?_) (hRH3.obj (σ j) o ho).2⟩
    ·show φ j < s.nx + p
     by_cases h1 : j < m
     ·rw [hφlo j h1]; have := hnx j h1; omega
     ·rw [hφhi j h1]; omega
    ·rw [hobj j hj] at ho; exact List.mem_of_getElem? ho
   ·obtain ⟨g1, g2⟩ := hother i hi
    rw [g1] at ho; rw [g2]
    obtain ⟨q1, q2⟩ := hRH.obj i o ho
    refine ⟨by show i < s.nx + p; omega, q2.mono hlater fun b hb => ?_⟩
    obtain ⟨h3, h4⟩ := hfar i hi (by rw [ho]; simp) b hb
    exact hstep.keep b h3 h4
  ·have key : ∀ i j, s'.H i ≠ none -> s'.H j ≠ none -> (∃ a, a < n /\ φ a = i) -> (∀ a, a < n -> φ a ≠ j) -> blockOf (s'.κ i) ≠ none -> blockOf (s'.κ i) ≠ blockOf (s'.κ j) := by
    rintro i j hi hj ⟨a, ha, rfl⟩ hjo hb e
    rw [(hnew a ha).2] at hb e
    rw [(hother j hjo).1] at hj
    rw [(hother j hjo).2] at e
    cases hbb : blockOf (s3.κ (σ a)) with
    | none => exact hb hbb
    | some b =>
     rw [hbb] at e
     obtain ⟨h3, h4⟩ := hfar j hjo hj b e.symm
     rcases hstep.own b ⟨σ a, hRH3.fresh (hlive3 a ha), hlive3 a ha, hbb⟩ with h5 | h5
     ·exact h4 h5
     ·omega
   rcases hcase i with hi1 | hi1
   ·rcases hcase j with hj1 | hj1
    ·obtain ⟨a, ha, rfl⟩ := hi1
     obtain ⟨c, hc, rfl⟩ := hj1
     rw [(hnew a ha).2] at hb ⊢
     rw [(hnew c hc).2]
     exact hRH3.apart (σ a) (σ c) (hlive3 a ha) (hlive3 c hc) (fun e => hij (by rw [hσ a c ha hc e])) hb
    ·exact key i j hi hj hi1 hj1 hb
   ·rcases hcase j with hj1 | hj1
    ·intro e
     exact key j i hj hi hj1 hi1 (by rw [<- e]; exact hb) e.symm
    ·rw [(hother i hi1).1] at hi; rw [(hother i hi1).2] at hb ⊢
     rw [(hother j hj1).1] at hj; rw [(hother j hj1).2]
     exact hRH.apart i j hi hj hij hb
 ·show φ j < s.nx + p
  by_cases h1 : j < m
  ·rw [hφlo j h1]; have := hnx j h1; omega
  ·rw [hφhi j h1]; omega
mutual
theorem zcv (g : Nat -> Nat) : ∀ d : D, pureD d = true -> renD g d = d
 | .agg ds, h => by simp only [renD, zgh g ds h]
 | .tup ds, h => by simp only [renD, zgh g ds h]
 | .osl _ _, h => by cases h
 | .ptr _ _, h => by cases h
 | .mp _, h => by cases h
 | .any, _ | .int _ _, _ | .bool _, _ | .str _, _ | .nil, _ | .nptr, _ | .nfun, _ | .nmp, _ | .e0, _ | .rsl _ _ _, _ | .rptr _, _ | .fsl _ _, _ | .fn _ _, _ | .eptr _ _ _, _ | .it _, _ => rfl
theorem zgh (g : Nat -> Nat) : ∀ ds : List D, pureD.pureL ds = true -> renD.renL g ds = ds
 | [], _ => rfl
 | d :: ds, h => by
  simp only [pureD.pureL, Bool.and_eq_true] at h
  simp only [renD.renL, zcv g d h.1, zgh g ds h.2]
end
mutual
theorem zjw {k : Nat} : ∀ d : D, pureD d = true -> okD k d = true
 | .agg ds, h => zjx ds h
 | .tup ds, h => zjx ds h
 | .osl _ _, h => by cases h
 | .ptr _ _, h => by cases h
 | .mp _, h => by cases h
 | .any, _ | .int _ _, _ | .bool _, _ | .str _, _ | .nil, _ | .nptr, _ | .nfun, _ | .nmp, _ | .e0, _ => rfl
 | .rsl _ _ _, h | .rptr _, h | .fsl _ _, h | .fn _ _, h | .eptr _ _ _, h | .it _, h => h
theorem zjx {k : Nat} : ∀ ds : List D, pureD.pureL ds = true -> okD.okL k ds = true
 | [], _ => rfl
 | d :: ds, h => by
  simp only [pureD.pureL, Bool.and_eq_true] at h
  simp only [okD.okL, zjw d h.1, zjx ds h.2, Bool.and_self]
end
theorem zq3 (a : HObj) : (fun i => [a][i]? : HM) = z13 noH 0 (some a) := by
 funext i
 match i with
 | 0 => rfl
 | i + 1 => simp [z13, noH]
theorem two_objs (a b : HObj) : (fun i => [a, b][i]? : HM) = z13 (z13 noH 0 (some a)) 1 (some b) := by
 funext i
 match i with
 | 0 => rfl
 | 1 => rfl
 | i + 2 => simp [z13, noH]
theorem zjy {n : Nat} {o : HObj} (h : z31 o = true) : lowO n o = true := by
 cases o with
 | box e cs => exact z35 n cs h
 | row e k cs => exact z35 n cs h
 | map es =>
  simp only [z31, Bool.and_eq_true] at h
  simp only [lowO, z35 n _ h.1, z35 n _ h.2, Bool.and_self]
 | raw o => rfl
theorem DC_frame {f : FuncId} {ds ds' : List D} {k : Nat} {r : D} {a a' b b' : HObj} (hds : okD.okL 2 ds = true) (hr : pureD r = true) (ha : z31 a = true) (ha' : z31 a' = true) (hb : z31 b = true) (hb' : z31 b' = true)
  (h : AC P f ds (z13 (z13 noH 0 (some a)) 1 (some b)) 2 fun d H' _ => (∃ x, z2s P (hiH 2 H') k d = some x /\ Le x r) /\ H' 0 = some a' /\ H' 1 = some b')
  {i j : Nat} (hij : i ≠ j) (V : ds.map (renD fun q => if q = 0 then i else j) = ds') : DC P f ds' i j a a' b b' r := by
 intro H nx hi hj hHi hHj
 have h1 := zro hr h (fun H' ⟨hu, hv⟩ id o hid ho => by
  match id, hid with
  | 0, _ => rw [hu] at ho; cases ho; exact .inr (zjy ha')
  | 1, _ => rw [hv] at ho; cases ho; exact .inr (zjy hb'))
 have h2 := zjv (f := f) (ds := ds) (objs0 := [a, b]) (objs1 := [a', b']) (objs2 := []) (r := r) (m := 2) (n := 2) (p := 0) rfl rfl rfl rfl hds (zjw r hr) (fun o ho => by simp at ho; rcases ho with rfl | rfl <;> assumption) (fun o ho => by simp at ho; rcases ho with rfl | rfl <;> assumption)
  (by rw [two_objs]; exact h1.mono fun d H2 n2 ⟨e1, _, H', ⟨hu, hv⟩, e3⟩ => ⟨fun q => q, fun _ _ => rfl, fun _ _ _ _ e => e, by rw [zo7]; exact e1, fun q hq => by
   subst e3
   match q, hq with
   | 0, _ => show zu4 2 H' 0 = _; exact hu
   | 1, _ => show zu4 2 H' 1 = _; exact hv⟩)
  (τ := fun q => if q = 0 then i else j) (fun q q' hq hq' e => by
   match q, q', hq, hq' with
   | 0, 0, _, _ => rfl
   | 0, 1, _, _ => exact (hij e).elim
   | 1, 0, _, _ => exact (hij e.symm).elim
   | 1, 1, _, _ => rfl) (H := H) (nx := nx) (fun q hq => by
   match q, hq with
   | 0, _ => exact hi
   | 1, _ => exact hj) (fun q hq => by
   match q, hq with
   | 0, _ => exact hHi
   | 1, _ => exact hHj)
 rw [V] at h2
 refine ⟨h2.1, fun s w vs q1 q2 q3 q4 => (h2.2 s w vs q1 q2 q3 q4).mono fun e w' ⟨v, r1, s1, he, ⟨g1, g2, _, g4, g5⟩, hs, hR, hrel⟩ => ⟨v, r1, s1, he, ⟨g1.trans (zcv _ r hr), ?_, g5⟩, hs, hR, hrel⟩⟩
 funext q
 have e0 : s1.H i = some a' := g2 0 (by omega)
 have e1 : s1.H j = some b' := g2 1 (by omega)
 unfold z13
 by_cases c1 : q = j
 ·subst c1; rw [if_pos rfl]; exact e1
 rw [if_neg c1]
 by_cases c2 : q = i
 ·subst c2; rw [if_pos rfl]; exact e0
 rw [if_neg c2]
 refine g4 q (fun x hx e => ?_) (by omega)
 match x, hx with
 | 0, _ => exact c2 e.symm
 | 1, _ => exact c1 e.symm
theorem TC_frame {f : FuncId} {ds ds' : List D} {k : Nat} {r : D} {a a' : HObj} (hds : okD.okL 1 ds = true) (hr : pureD r = true) (ha : z31 a = true) (ha' : z31 a' = true)
  (h : AC P f ds (z13 noH 0 (some a)) 1 fun d H' _ => (∃ x, z2s P (hiH 1 H') k d = some x /\ Le x r) /\ H' 0 = some a') (i : Nat) (V : ds.map (renD fun _ => i) = ds') : TC P f ds' i a a' r := by
 intro H nx hi hHi
 have h1 := zro hr h (fun H' hu id o hid ho => by
  match id, hid with
  | 0, _ => rw [hu] at ho; cases ho; exact .inr (zjy ha'))
 have h2 := zjv (f := f) (ds := ds) (objs0 := [a]) (objs1 := [a']) (objs2 := []) (r := r) (m := 1) (n := 1) (p := 0) rfl rfl rfl rfl hds (zjw r hr) (fun o ho => by simp at ho; rw [ho]; exact ha) (fun o ho => by simp at ho; rw [ho]; exact ha')
  (by rw [zq3]; exact h1.mono fun d H2 n2 ⟨e1, _, H', hu, e3⟩ => ⟨fun q => q, fun _ _ => rfl, fun _ _ _ _ e => e, by rw [zo7]; exact e1, fun q hq => by
   subst e3
   match q, hq with
   | 0, _ => show zu4 1 H' 0 = _; exact hu⟩)
  (τ := fun _ => i) (fun q q' hq hq' _ => by omega) (H := H) (nx := nx) (fun q hq => hi) (fun q hq => by
   match q, hq with
   | 0, _ => exact hHi)
 rw [V] at h2
 refine ⟨h2.1, fun s w vs q1 q2 q3 q4 => (h2.2 s w vs q1 q2 q3 q4).mono fun e w' ⟨v, r1, s1, he, ⟨g1, g2, _, g4, g5⟩, hs, hR, hrel⟩ => ⟨v, r1, s1, he, ⟨g1.trans (zcv _ r hr), ?_, g5⟩, hs, hR, hrel⟩⟩
 funext q
 have e0 : s1.H i = some a' := g2 0 (by omega)
 unfold z13
 by_cases c2 : q = i
 ·subst c2; rw [if_pos rfl]; exact e0
 rw [if_neg c2]
 exact g4 q (fun x hx e => c2 e.symm) (by omega)
theorem GC_frame {f : FuncId} {ds ds' : List D} {a b : HObj} {r : D} (hds : okD.okL 1 ds = true) (hr : okD 2 r = true) (ha : z31 a = true) (hb : z31 b = true)
  (h : AC P f ds (z13 noH 0 (some a)) 1 fun d H' _ => ∃ σ : Nat -> Nat, σ 0 = 0 /\ 1 <= σ 1 /\ d = renD σ r /\ H' 0 = some a /\ H' (σ 1) = some b)
  (i : Nat) (V : ds.map (renD fun _ => i) = ds') : ∀ H nx, i < nx -> H i = some a -> AC P f ds' H nx fun r' H' nx' => r' = renD (fun j => if j < 1 then i else nx + (j - 1)) r /\ H' = zjc H nx [b] /\ nx' = nx + 1 := by
 intro H nx hi hHi
 have h2 := zjv (f := f) (ds := ds) (objs0 := [a]) (objs1 := [a]) (objs2 := [b]) (r := r) (m := 1) (n := 2) (p := 1) rfl rfl rfl rfl hds hr (fun o ho => by simp at ho; rw [ho]; exact ha) (fun o ho => by simp at ho; rcases ho with rfl | rfl <;> assumption)
  (by rw [zq3]; exact h.mono fun d H2 n2 ⟨σ, e1, e2, e3, e4, e5⟩ => ⟨σ, fun q hq => by rw [show q = 0 by omega]; exact e1, fun q q' hq hq' e => by
   match q, q', hq, hq' with
   | 0, 0, _, _ => rfl
   | 0, 1, _, _ => rw [e1] at e; omega
   | 1, 0, _, _ => rw [e1] at e; omega
   | 1, 1, _, _ => rfl, e3, fun q hq => by
   match q, hq with
   | 0, _ => rw [e1]; exact e4
   | 1, _ => exact e5⟩)
  (τ := fun _ => i) (fun q q' hq hq' _ => by omega) (H := H) (nx := nx) (fun q hq => hi) (fun q hq => by
   match q, hq with
   | 0, _ => exact hHi)
 rw [V] at h2
 refine ⟨h2.1, fun s w vs q1 q2 q3 q4 => (h2.2 s w vs q1 q2 q3 q4).mono fun e w' ⟨v, r1, s1, he, ⟨g1, g2, g3, g4, g5⟩, hs, hR, hrel⟩ => ⟨v, r1, s1, he, ⟨g1, ?_, g5⟩, hs, hR, hrel⟩⟩
 funext q
 rw [zbo]
 have e0 : s1.H i = some a := g2 0 (by omega)
 have e1 : s1.H nx = some b := g3 0 (by omega)
 by_cases c1 : nx <= q /\ q < nx + [b].length
 ·rw [if_pos c1]
  have : q = nx := by simp at c1; omega
  subst this
  rw [Nat.sub_self]; exact e1
 ·rw [if_neg c1]
  by_cases c2 : q = i
  ·subst c2; rw [e0, hHi]
  ·exact g4 q (fun x hx e => c2 e.symm) (by simpa using c1)
end Go.Proofs.YtlfohdkfpdkhhaaGreatDoor.Abs
namespace Go.Proofs.YtlfohdkfpdkhhaaGreatDoor
section
open Abs Facts Tr
attribute [local irreducible] awp
set_option maxRecDepth 100000
theorem tc_Log (s : Ses) (hl : s.dn.length <= 1000000) (hl2 : s.un.length <= 1000000) (ho : ∀ o ∈ s.dn, o.words.length <= 1000000 /\ szB o.unit = true) (k : Nat) : TC Tryz.prog 20 [.ptr k 0] k (edO s) (edO s) (z2j s.dn) := by
 have hct : (s.dn ++ s.un).take s.dn.length = s.dn := List.take_left' rfl
 refine TC_frame (k := 3) (ds := [.ptr 0 0]) rfl (z89 _) (show z31 (edO s) = true from z30 s) (show z31 (edO s) = true from z30 s) (z10 [3] Tryz.func20 rfl (by decide +kernel) z0f (by decide +kernel) (by simp [Tryz.ntmps20]) ?_) k rfl
 show awp _ _ (Code.seq _ _) _ _
 rw [show Tryz.f20.results.toList = [.tmp 2] from rfl]
 unfold edO
 repeat' (first | refine nxt ?_ | ((first | refine zqh fun K J => ?_ | refine zqe (by decide +kernel) fun K J => ?_); (simp (disch := omega) only [go_sem, Nat.reduceBEq, ↓reduceIte, reduceCtorEq, Nat.reduceAdd, z15, z2j, List.length_append, List.length_map, <- List.map_take, hct])) | (refine J _ ?_; clear J K))
 (refine z3t (fun U st => ∃ (i : _), U = s.dn.length - i /\ st.t 0 = .ptr 0 0 /\ st.t 3 = .osl 1 i /\ st.t 14 = .rsl false 18 (s.dn.map z34) /\ st.t 15 = .int .i64 s.dn.length /\ st.t 16 = .int .i64 i /\ st.H 0 = some (.box 74 (z15 s)) /\ st.H 1 = some (.row 32 i ((s.dn.take i).flatMap z1e)) /\ (i <= s.dn.length) /\ (2 <= st.nx)) ?_ ?_); rotate_left; (rintro U st ⟨i, rfl, q0, q3, q14, q15, q16, qH0, qH1, qp0, qp1⟩); rotate_left
 ·(refine ⟨_, 0, rfl, ?_⟩); (simp (disch := omega) only [go_sem, Nat.reduceBEq, Nat.reduceLeDiff, and_self, Int.natCast_zero, List.flatMap_nil, z15, z2j])
  all_goals first | exact ⟨rfl, rfl, by omega, by omega⟩ | rfl | omega
 by_cases hi : i < s.dn.length
 ·have hg := ho _ (List.getElem_mem hi)
  have c1 := z9x s.dn[i] hg.1 hg.2
  have htk := List.take_succ_eq_append_getElem hi
  repeat' (first | ((first | refine zqh fun K J => ?_ | refine zqr fun K J => ?_ | refine zqs (c1) ?_); (simp (disch := omega) only [go_sem, Nat.reduceBEq, ↓reduceIte, reduceCtorEq, Nat.reduceAdd, Nat.reduceMul, Nat.reduceLeDiff, q3, q14, q15, q16, qH1, z34, zj2])) | ((refine zqd _ rfl (fun hc => ?_) (fun hc => ?_)) <;> (((try simp only [z08] at hc); (try (exfalso; omega))))) | refine nxt ?_ | (refine J _ ?_; clear J K))
  (refine Exists.intro _ (And.intro ?_ ⟨i + 1, rfl, ?_⟩)); rotate_left; (simp (disch := omega) only [go_sem, Nat.reduceBEq, Nat.reduceLeDiff, q0, q3, q14, q15, q16, qH0, qH1, true_and, Int.natCast_add, Int.natCast_one, List.flatMap_append, List.flatMap_cons, List.flatMap_nil, List.append_nil, htk]); rotate_left
  all_goals first | omega | exact ⟨by omega, by omega⟩
 ·have hie : i = s.dn.length := by omega
  subst hie
  rw [List.take_length] at qH1
  repeat' (first | ((refine zqh fun K J => ?_); (simp (disch := omega) only [go_sem, Nat.reduceBEq, ↓reduceIte, q3, q15, q16])) | ((refine zqd _ rfl (fun hc => ?_) (fun hc => ?_)) <;> (((try simp only [z08] at hc); (try (exfalso; omega))))) | refine nxt ?_ | refine zqz ?_ | refine zqu (by (simp (disch := omega) only [go_sem, Nat.reduceBEq]); rfl) rfl ?_ | (refine J _ ?_; clear J K))
  refine ⟨⟨_, z1n 1 (by rw [hi_get (by omega)]; (simp (disch := omega) only [go_sem, qH1])) zyv sizeT32 z45 z70, Le.refl _⟩, ?_⟩
  (simp (disch := omega) only [go_sem, qH0])
  all_goals first | exact qH0 | rfl
namespace Tr
theorem zt2 (b : T) (l : List Deed) {i : Nat} (hi : i < l.length) : draft b (l.take (i + 1)) = doT (draft b (l.take i)) l[i] (z39 (l.take i)) := by
 rw [List.take_succ_eq_append_getElem hi, zb9]
end Tr
theorem zwi (s : Ses) (hs : standsT s.base = true) (hok : OKrun s.base s.dn) (ho : ∀ o ∈ s.dn, OpSz o) (hn : z39 s.dn <= 100000000) (hl : s.dn.length <= 1000000) (k : Nat) (H : HM) (nx : Nat) (O : k < nx) (hH : H k = some (stO s)) :
  RC Tryz.prog 47 [.ptr k 0] H nx (.tup [z0i s.draft, .int .i64 (z39 s.dn : Nat)]) := by
 have hnb := zbw O
 have hH2 : H k = some (.box 61 (z3a s)) := hH
 refine RC_fin (k := 3) (by simp only [pureD, pureD.pureL, z01, Bool.and_self]) (z10 [5000030] Tryz.func47 rfl (by decide +kernel) z0f (by decide +kernel) (by simp [Tryz.ntmps47]) ?_)
 show awp _ _ (Code.seq _ _) _ _
 rw [show Tryz.f47.results.toList = [.cell 2 27, .tmp 3] from rfl]
 have hsp : ∀ t x : T, z18 (z09 t) 0 (z09 x) = z09 x := fun t x => z6y _ _ (by rw [z0b, z0b])
 repeat' (first | refine nxt ?_ | ((refine zqh fun K J => ?_); (simp (disch := omega) only [go_sem, Nat.reduceBEq, ↓reduceIte, reduceCtorEq, Nat.reduceAdd, Nat.reduceLeDiff, hH2, hnb])) | (refine J _ ?_; clear J K))
 (refine z3t (fun U st => ∃ (i : _), U = s.dn.length - i /\ st.t 0 = .ptr k 0 /\ st.t 2 = .ptr nx 0 /\ st.t 4 = .ptr (nx + 1) 0 /\ st.t 5 = .int .i64 (z39 (s.dn.take i) : Nat) /\ st.t 6 = .int .i64 i /\ st.H (k) = some (.box 61 (z3a s)) /\ st.H (nx) = some (.box 27 z62) /\ st.H (nx + 1) = some (.box 27 (z09 (draft s.base (s.dn.take i)))) /\ (i <= s.dn.length) /\ (nx + 2 <= st.nx) /\ (∀ id, id < nx -> st.H id = H id)) ?_ ?_); rotate_left; (rintro U st ⟨i, rfl, q0, q2, q4, q5, q6, qHk, qHnx, qHnx1, qp0, qp1, qp2⟩); rotate_left
 ·(refine ⟨_, 0, rfl, ?_⟩); (simp (disch := omega) only [go_sem, Nat.reduceBEq, Nat.reduceLeDiff, true_and, Int.natCast_zero, z62, hH2, hnb])
  exact ⟨rfl, rfl, Nat.le_refl _, fun id a => by simp (disch := omega) only [z1v]⟩
 by_cases hi : i < s.dn.length
 ·have h1 := znp s.dn i
  have V := z65 hs (zon hok i)
  have c1 := pc_Do (draft s.base (s.dn.take i)) V s.dn[i] (ho _ (List.getElem_mem hi)) (z39 (s.dn.take i)) (by omega)
  rw [z7l (t := draft s.base (s.dn.take (i + 1))) (m := zj8 s.dn[i]) (hok i hi) (zt2 _ _ hi).symm rfl] at c1
  repeat' (first | refine nxt ?_ | ((first | refine zqh fun K J => ?_ | refine zqr fun K J => ?_ | refine zqq (by decide +kernel) fun K J => ?_ | refine zqt (c1) ?_); (simp (disch := omega) only [go_sem, Nat.reduceBEq, ↓reduceIte, reduceCtorEq, Nat.reduceAdd, Nat.reduceLeDiff, q0, q4, q5, q6, qHk, qHnx1, z0i, z34, z2j, hsp])) | ((refine zqd _ rfl (fun hc => ?_) (fun hc => ?_)) <;> (((try simp only [z08] at hc); (try (exfalso; omega))))) | (refine J _ ?_; clear J K))
  (refine Exists.intro _ (And.intro ?_ ⟨i + 1, rfl, ?_⟩)); rotate_left; (simp (disch := omega) only [go_sem, Nat.reduceBEq, q0, q2, q4, q5, q6, qHk, qHnx, qHnx1, true_and, Int.natCast_add, Int.natCast_one, zcj s.dn hi, hnb]); rotate_left
  ·omega
  ·refine ⟨by omega, by omega, fun id hid => ?_⟩
   simp (disch := omega) only [z1v]
   exact qp2 id hid
 ·have hie : i = s.dn.length := by omega
  subst hie
  rw [List.take_length] at q5 qHnx1
  repeat' (first | refine nxt ?_ | ((refine zqh fun K J => ?_); (simp (disch := omega) only [go_sem, Nat.reduceBEq, ↓reduceIte, reduceCtorEq, Nat.reduceAdd, Nat.reduceLeDiff, q0, q2, q4, q5, q6, qHk, qHnx, qHnx1, z2j, z62])) | ((refine zqd _ rfl (fun hc => ?_) (fun hc => ?_)) <;> (((try simp only [z08] at hc); (try (exfalso; omega))))) | refine zqz ?_ | refine zqu (by (simp (disch := omega) only [go_sem, Nat.reduceBEq, ↓reduceIte, Nat.reduceLeDiff, q2, qHnx, z62]); rfl) rfl ?_ | (refine J _ ?_; clear J K))
  refine ⟨⟨_, z02 2 (by simp only [pureD, pureD.pureL, z04, Bool.and_self]), Le.refl _⟩, fun id hid => ?_⟩
  (simp (disch := omega) only [go_sem])
  simp (disch := omega) only [z1v]
  exact qp2 id hid
theorem le_apply (s : Ses) (l : List Deed) : LeL (((z3a s).set 8 (.rsl false 18 (l.map z34))).set 9 .nil) (z3a ⟨s.base, l, []⟩) := by
 rw [z3s, z3s]
 exact ⟨Le.refl _, Le.refl _, Le.refl _, Le.refl _, Le.refl _, Le.refl _, Le.refl _, Le.refl _, Le.refl _, Le.nil 18, trivial⟩
theorem zo9 (s : Ses) (n : Nat) : lowO n (stO s) = true := z35 n (z3a s) (zbm s)
theorem zwj (s : Ses) (hs : standsT s.base = true) (hok : OKrun s.base s.dn) (ho : ∀ o ∈ s.dn, OpSz o) (hn : z39 s.dn <= 100000000) (hl : s.dn.length <= 1000000) (o : Deed) (hoo : OpSz o) (k : Nat) :
  TC Tryz.prog 50 [.ptr k 0, z34 o] k (stO s) (stO (z1h s o).2) (.int .i64 (z1h s o).1) := by
 have V := z65 hs hok
 have c2 := pc_Do s.draft V o hoo (z39 s.dn) hn
 refine zh8 (k := 1) rfl (fun n _ => zo9 _ n) fun H nx O hH => (z10 [27, 3000031, 3000033, 2000035] Tryz.func50 rfl (by decide +kernel) z0f (by decide +kernel) (by simp [Tryz.ntmps50]) ?_)
 show awp _ _ (Code.seq _ _) _ _
 rw [show Tryz.f50.results.toList = [.tmp 4] from rfl]
 have hnb := zbw O
 have hH2 : H k = some (.box 61 (z3a s)) := hH
 have hsp : ∀ t x : T, z18 (z09 t) 0 (z09 x) = z09 x := fun t x => z6y _ _ (by rw [z0b, z0b])
 have c1 := fun H' nx' (h1 : k < nx') (h2 : H' k = some (.box 61 (z3a s))) => zwi s hs hok ho hn hl k H' nx' h1 h2
 by_cases he : doE s.draft o (z39 s.dn) = 0
 ·have ha : z1h s o = (0, ⟨s.base, s.dn ++ [o], []⟩) := by unfold z1h; rw [if_pos he]
  rw [ha]
  rw [z7l he rfl rfl] at c2
  have hgr : z1x true 18 (s.dn.length + 1) (s.dn.flatMap z1e ++ z1e o) = (s.dn ++ [o]).map z34 := by
   have := z5x (s.dn ++ [o])
   rw [List.length_append, List.length_singleton, List.flatMap_append, List.flatMap_singleton] at this
   exact this
  have hpu := z6t s.dn
  repeat' (first | refine nxt ?_ | ((first | refine z1j (N := 7) rfl fun K J => ?_ | refine z38 (N := 7) rfl (by decide +kernel) fun K J => ?_ | ((refine z0u (c1 _ _ ?_ ?_) ?_); (focus (((simp (disch := omega) only [go_sem]); done))); (focus ((simp (disch := omega) only [go_sem, hH2, hnb]); done))) | refine zqs (c2) ?_); (simp (disch := omega) only [go_sem, Nat.reduceBEq, Nat.reduceEqDiff, ↓reduceIte, reduceCtorEq, Nat.reduceAdd, Nat.reduceMul, Nat.reduceLeDiff, Nat.reduceLT, hH2, hnb, z34, z2j, z2k, hgr, hpu, List.append_nil])) | ((refine zqd _ rfl (fun hc => ?_) (fun hc => ?_)) <;> (first | (cases hc; done) | ((try simp only [] at hc); (try (exfalso; omega))))) | (refine J _ ?_; clear J K))
  refine z1i fun K J => ?_
  (simp (disch := omega) only [go_sem])
  refine J _ _ (z5w (b := k) (cs' := z3a ⟨s.base, s.dn ++ [o], []⟩) (by (simp (disch := omega) only [go_sem, hH2, hnb]); rfl) (le_apply _ _)) ?_
  clear J K
  repeat' (first | refine nxt ?_ | refine zqu (by (simp (disch := omega) only [go_sem, Nat.reduceBEq]); rfl) rfl ?_)
  refine ⟨⟨_, z02 0 rfl, Le.refl _⟩, ?_, fun id hid hne => ?_⟩
  ·(simp (disch := omega) only [go_sem, hnb])
   first | done | rfl
  ·(simp (disch := omega) only [go_sem])
   simp (disch := omega) only [z1v]
 ·have ha : z1h s o = (doE s.draft o (z39 s.dn), s) := by unfold z1h; rw [if_neg he]
  rw [ha]
  rw [z4w rfl he] at c2
  repeat' (first | refine nxt ?_ | ((first | refine zqh fun K J => ?_ | ((refine z0u (c1 _ _ ?_ ?_) ?_); (focus (((simp (disch := omega) only [go_sem]); done))); (focus ((simp (disch := omega) only [go_sem, hH2, hnb]); done))) | refine zqs (c2) ?_); (simp (disch := omega) only [go_sem, Nat.reduceBEq, ↓reduceIte, Nat.reduceAdd, Nat.reduceLeDiff, hnb, z34])) | ((refine zqd _ rfl (fun hc => ?_) (fun hc => ?_)) <;> (((try simp only [z08] at hc); (try (exfalso; omega))))) | refine zqu (by (simp (disch := omega) only [go_sem, Nat.reduceBEq]); rfl) rfl ?_ | (refine J _ ?_; clear J K))
  refine ⟨⟨_, z02 0 rfl, Le.refl _⟩, ?_, fun id hid hne => ?_⟩
  ·(simp (disch := omega) only [go_sem, hH2, hnb])
   first | done | rfl
  ·(simp (disch := omega) only [go_sem])
   simp (disch := omega) only [z1v]
theorem zhu (l : List Deed) (o : Deed) : z1x true 18 (l.length + 1) (l.flatMap z1e ++ z1e o) = (l ++ [o]).map z34 := by
 have := z5x (l ++ [o])
 rw [List.length_append, List.length_singleton, List.flatMap_append, List.flatMap_singleton] at this
 exact this
theorem zz9 (s : Ses) (hl : s.dn.length <= 1000000) (hl2 : s.un.length <= 1000000) (k : Nat) :
  TC Tryz.prog 30 [.ptr k 0] k (stO s) (stO (z6n s).2) (.bool (z6n s).1) := by
 refine zh8 (k := 1) rfl (fun n _ => zo9 _ n) fun H nx O hH => (z10 [12, 3000016, 3000021, 3000024, 3000025, 2000027] Tryz.func30 rfl (by decide +kernel) z0f (by decide +kernel) (by simp [Tryz.ntmps30]) ?_)
 show awp _ _ (Code.seq _ _) _ _
 rw [show Tryz.f30.results.toList = [.tmp 2] from rfl]
 have hnb := zbw O
 obtain ⟨b, d, u⟩ := s
 have hH2 : H k = some (.box 61 (z3a ⟨b, d, u⟩)) := hH
 rcases List.eq_nil_or_concat d with rfl | ⟨l, o, V⟩
 ·have ha : z6n ⟨b, [], u⟩ = (false, ⟨b, [], u⟩) := rfl
  rw [ha]
  repeat' (first | refine nxt ?_ | ((refine zqh fun K J => ?_); (simp (disch := omega) only [go_sem, Nat.reduceBEq, ↓reduceIte, reduceCtorEq, Nat.reduceAdd, hH2, z2j])) | ((refine zqd _ rfl (fun hc => ?_) (fun hc => ?_)) <;> (first | (cases hc; done) | ((try simp only [decide_eq_true_eq] at hc); (try (exfalso; omega))))) | refine zqu (by (simp (disch := omega) only [go_sem, Nat.reduceBEq]); rfl) rfl ?_ | (refine J _ ?_; clear J K))
  refine ⟨⟨_, z02 0 rfl, Le.refl _⟩, ?_, fun id hid hne => ?_⟩
  ·(simp (disch := omega) only [go_sem, hH2])
   first | done | rfl
  ·(simp (disch := omega) only [go_sem])
 ·simp only [List.concat_eq_append] at V
  subst V
  have ha : z6n ⟨b, l ++ [o], u⟩ = (true, ⟨b, l, o :: u⟩) := by unfold z6n; simp
  rw [ha]
  have hlen : (l ++ [o]).length = l.length + 1 := by simp
  have hlen : l.length + 1 <= 1000000 := by rw [<- hlen]; exact hl
  have hl2 : u.length <= 1000000 := hl2
  have hgr := zhu u.reverse o
  rw [List.length_reverse] at hgr
  have hpu := z6t u.reverse
  have hz : ((l.length + 1 : Nat) : Int) - 1 = ((l.length : Nat) : Int) := by omega
  have hge : ∀ (h : l.length < (l ++ [o]).length), (l ++ [o])[l.length] = o := fun h => by simp
  have htk : (l ++ [o]).take l.length = l := List.take_left' rfl
  have hs1 : ∀ x, ((z3a ⟨b, l ++ [o], u⟩).set 9 x)[8]? = some (.rsl false 18 (List.map z34 (l ++ [o]))) := by intro x; rw [z3s]; rfl
  have hfin : ((z3a ⟨b, l ++ [o], u⟩).set 9 (.rsl false 18 (List.map z34 (u.reverse ++ [o])))).set 8 (.rsl false 18 (List.map z34 l)) = z3a ⟨b, l, o :: u⟩ := by
   rw [z3s, z3s, List.reverse_cons]; rfl
  have hmin : min l.length (l.length + 1) = l.length := by omega
  repeat' (first | refine nxt ?_ | ((first | refine zqh fun K J => ?_ | refine zqe (by decide +kernel) fun K J => ?_); (simp (disch := omega) only [go_sem, Nat.reduceBEq, Nat.reduceEqDiff, ↓reduceIte, reduceCtorEq, Nat.reduceAdd, Nat.reduceMul, Nat.reduceLeDiff, Nat.reduceLT, hH2, hnb, z2j, z2k, hgr, hpu, List.append_nil, List.length_append, List.length_singleton, List.length_reverse, hz, hge, htk, z34, Int.toNat_natCast, hs1, hfin])) | ((refine zqd _ rfl (fun hc => ?_) (fun hc => ?_)) <;> (first | (cases hc; done) | ((try simp only [decide_eq_false_iff_not] at hc); (try (exfalso; omega))))) | refine zqu (by (simp (disch := omega) only [go_sem, Nat.reduceBEq]); rfl) rfl ?_ | (refine J _ ?_; clear J K))
  refine ⟨⟨_, z02 0 rfl, Le.refl _⟩, ?_, fun id hid hne => ?_⟩
  ·(simp (disch := omega) only [go_sem, hnb])
   first | done | rfl
  ·(simp (disch := omega) only [go_sem])
   simp (disch := omega) only [z1v]
theorem zza (s : Ses) (hl : s.dn.length <= 1000000) (hl2 : s.un.length <= 1000000) (k : Nat) :
  TC Tryz.prog 51 [.ptr k 0] k (stO s) (stO (z6o s).2) (.bool (z6o s).1) := by
 refine zh8 (k := 1) rfl (fun n _ => zo9 _ n) fun H nx O hH => (z10 [12, 3000016, 3000021, 3000024, 3000025, 2000027] Tryz.func51 rfl (by decide +kernel) z0f (by decide +kernel) (by simp [Tryz.ntmps51]) ?_)
 show awp _ _ (Code.seq _ _) _ _
 rw [show Tryz.f51.results.toList = [.tmp 2] from rfl]
 have hnb := zbw O
 obtain ⟨b, d, u⟩ := s
 have hH2 : H k = some (.box 61 (z3a ⟨b, d, u⟩)) := hH
 cases u with
 | nil =>
  have ha : z6o ⟨b, d, []⟩ = (false, ⟨b, d, []⟩) := rfl
  rw [ha]
  repeat' (first | refine nxt ?_ | ((refine zqh fun K J => ?_); (simp (disch := omega) only [go_sem, Nat.reduceBEq, ↓reduceIte, reduceCtorEq, Nat.reduceAdd, hH2, z2j, List.reverse_nil])) | ((refine zqd _ rfl (fun hc => ?_) (fun hc => ?_)) <;> (first | (cases hc; done) | ((try simp only [decide_eq_true_eq] at hc); (try (exfalso; omega))))) | refine zqu (by (simp (disch := omega) only [go_sem, Nat.reduceBEq]); rfl) rfl ?_ | (refine J _ ?_; clear J K))
  refine ⟨⟨_, z02 0 rfl, Le.refl _⟩, ?_, fun id hid hne => ?_⟩
  ·(simp (disch := omega) only [go_sem, hH2])
   first | done | rfl
  ·(simp (disch := omega) only [go_sem])
 | cons o u =>
  obtain ⟨l, hl3⟩ : ∃ l, l = u.reverse := ⟨_, rfl⟩
  have hur : (o :: u).reverse = l ++ [o] := by rw [List.reverse_cons, hl3]
  have ha : z6o ⟨b, d, o :: u⟩ = (true, ⟨b, d ++ [o], u⟩) := rfl
  rw [ha]
  have hlen0 : (l ++ [o]).length = l.length + 1 := by simp
  have hlen : l.length + 1 <= 1000000 := by rw [hl3, List.length_reverse]; exact hl2
  have hl : d.length <= 1000000 := hl
  have hgr := zhu d o
  have hpu := z6t d
  have hz : ((l.length + 1 : Nat) : Int) - 1 = ((l.length : Nat) : Int) := by omega
  have hge : ∀ (h : l.length < (l ++ [o]).length), (l ++ [o])[l.length] = o := fun h => by simp
  have htk : (l ++ [o]).take l.length = l := List.take_left' rfl
  have hs1 : ∀ x, ((z3a ⟨b, d, o :: u⟩).set 8 x)[9]? = some (.rsl false 18 (List.map z34 (l ++ [o]))) := by intro x; rw [z3s, hur]; rfl
  have hfin : ((z3a ⟨b, d, o :: u⟩).set 8 (.rsl false 18 (List.map z34 (d ++ [o])))).set 9 (.rsl false 18 (List.map z34 l)) = z3a ⟨b, d ++ [o], u⟩ := by
   rw [z3s, z3s, hl3]; rfl
  have hmin : min l.length (l.length + 1) = l.length := by omega
  repeat' (first | refine nxt ?_ | ((first | refine zqh fun K J => ?_ | refine zqe (by decide +kernel) fun K J => ?_); (simp (disch := omega) only [go_sem, Nat.reduceBEq, Nat.reduceEqDiff, ↓reduceIte, reduceCtorEq, Nat.reduceAdd, Nat.reduceMul, Nat.reduceLeDiff, Nat.reduceLT, hH2, hnb, z2j, z2k, hgr, hpu, hur, List.append_nil, List.length_append, List.length_singleton, hz, hge, htk, z34, Int.toNat_natCast, hs1, hfin])) | ((refine zqd _ rfl (fun hc => ?_) (fun hc => ?_)) <;> (first | (cases hc; done) | ((try simp only [decide_eq_false_iff_not] at hc); (try (exfalso; omega))))) | refine zqu (by (simp (disch := omega) only [go_sem, Nat.reduceBEq]); rfl) rfl ?_ | (refine J _ ?_; clear J K))
  refine ⟨⟨_, z02 0 rfl, Le.refl _⟩, ?_, fun id hid hne => ?_⟩
  ·(simp (disch := omega) only [go_sem, hnb])
   first | done | rfl
  ·(simp (disch := omega) only [go_sem])
   simp (disch := omega) only [z1v]
end
section
open Abs Facts
attribute [local irreducible] awp
end
section
open Abs Facts Tr
attribute [local irreducible] awp
set_option maxRecDepth 100000
end
section
open Abs Facts Tr
structure OpOK (o : Deed) : Prop where
 few : fewO o = true
 at1 : -9223372036854775808 <= o.at_
 at2 : o.at_ <= 9223372036854775807
theorem OpOK.cnt {o : Deed} (h : OpOK o) : szB o.unit = true /\ cntT o.unit <= 12 /\ depT o.unit <= 20 := by
 have h1 := h.few
 unfold fewO at h1
 simp only [Bool.and_eq_true] at h1
 obtain ⟨a, b, c⟩ := few_sz (t := o.unit) (most := 12) (by decide) (by decide) h1.1.2
 exact ⟨a, by omega, c⟩
theorem OpOK.sz {o : Deed} (h : OpOK o) : OpSz o := by
 obtain ⟨a, b, c⟩ := h.cnt
 have h1 := h.few
 unfold fewO at h1
 simp only [Bool.and_eq_true, decide_eq_true_eq, List.all_eq_true] at h1
 exact ⟨by omega, fun w hw => by have := h1.2 w hw; omega, by omega, a, by omega, by omega, h.at1, h.at2⟩
structure RdO (o : Deed) : Prop where
 ws : o.words.length <= maxLen
 lb : o.label.size <= maxLen
 wt : ∀ w ∈ o.words, w.size <= maxLen
 un : fitB o.unit = true
 at1 : -9223372036854775808 <= o.at_
 at2 : o.at_ <= 9223372036854775807
theorem RdO.use {o : Deed} (h : RdO o) : o.words.length <= maxLen /\ o.label.size <= maxLen /\ (∀ w ∈ o.words, w.size <= maxLen) /\ fitB o.unit = true := ⟨h.ws, h.lb, h.wt, h.un⟩
theorem zze {u : T} {l : List Ky} (hl : ∀ q ∈ l, RdO q.o) (h : (decide (l.length <= 16) && zxd u 40 && (l.map (·.o)).all fewO) = true) : szB u = true /\ cntT u <= 40 /\ depT u <= 20 /\ l.length <= 16 /\ ∀ p ∈ l, OpOK p.o := by
 simp only [Bool.and_eq_true, decide_eq_true_eq, List.all_eq_true] at h
 obtain ⟨⟨h1, h2⟩, h3⟩ := h
 obtain ⟨a, b, c⟩ := few_sz (t := u) (most := 40) (by decide) (by decide) h2
 exact ⟨a, by omega, c, h1, fun p hp => ⟨h3 _ (List.mem_map.2 ⟨p, hp, rfl⟩), (hl p hp).at1, (hl p hp).at2⟩⟩
structure Live (n : Nat) (s : Ses) : Prop where
 ok : SesOK s
 ops : ∀ o ∈ s.dn ++ s.un, OpOK o
 len : s.dn.length + s.un.length <= n
theorem add_le {l : List Deed} (h : ∀ o ∈ l, OpOK o) : z39 l <= 12 * l.length := by
 induction l with
 | nil => simp [z39]
 | cons o l ih =>
  have h1 := ih fun q hq => h q (List.mem_cons_of_mem _ hq)
  have h2 := (h o List.mem_cons_self).cnt.2.1
  have h3 : zj8 o <= cntT o.unit := by unfold zj8; split <;> omega
  unfold z39 at h1 ⊢
  rw [List.map_cons, List.sum_cons, List.length_cons]; omega
theorem Live.opsD {n : Nat} {s : Ses} (h : Live n s) : ∀ o ∈ s.dn, OpOK o := fun o ho => h.ops o (List.mem_append_left _ ho)
theorem Live.add {n : Nat} {s : Ses} (h : Live n s) : z39 s.dn <= 12 * n := by
 have h1 := add_le h.opsD
 have := h.len
 omega
theorem Live.mono {n m : Nat} {s : Ses} (h : Live n s) (hm : n <= m) : Live m s := ⟨h.ok, h.ops, Nat.le_trans h.len hm⟩
theorem zkv {t : T} (h : standsT t = true) : Live 0 ⟨t, [], []⟩ := ⟨⟨h, ok_nil t⟩, fun o ho => (by cases ho), by simp⟩
theorem Live.apply {n : Nat} {s : Ses} (h : Live n s) {o : Deed} (ho : OpOK o) : Live (n + 1) (z1h s o).2 := by
 refine ⟨apply_ok h.ok o, fun q hq => ?_, ?_⟩
 ·unfold z1h at hq
  split at hq
  ·simp only [List.append_nil, List.mem_append, List.mem_singleton] at hq
   rcases hq with hq | rfl
   ·exact h.opsD q hq
   ·exact ho
  ·exact h.ops q hq
 ·have := h.len
  unfold z1h
  split
  ·simp; omega
  ·show s.dn.length + s.un.length <= _; omega
theorem zs0 (s : Ses) : (z6n s).2.base = s.base /\ (z6n s).2.dn ++ (z6n s).2.un = s.dn ++ s.un := by
 unfold z6n
 split
 ·exact ⟨rfl, rfl⟩
 ·rename_i o he
  refine ⟨rfl, ?_⟩
  obtain ⟨l, hl⟩ := List.getLast?_eq_some_iff.1 he
  show s.dn.dropLast ++ o :: s.un = _
  rw [hl, List.dropLast_concat, List.append_assoc]; rfl
theorem zs1 (s : Ses) : (z6o s).2.base = s.base /\ (z6o s).2.dn ++ (z6o s).2.un = s.dn ++ s.un := by
 unfold z6o
 split
 ·exact ⟨rfl, rfl⟩
 ·rename_i o l he
  refine ⟨rfl, ?_⟩
  show (s.dn ++ [o]) ++ l = _
  rw [he, List.append_assoc]; rfl
theorem Live.undo {n : Nat} {s : Ses} (h : Live n s) : Live n (z6n s).2 := by
 obtain ⟨_, h2⟩ := zs0 s
 refine ⟨undo_ok h.ok, fun q hq => h.ops q (by rw [<- h2]; exact hq), ?_⟩
 have h3 := h.len
 have h4 := congrArg List.length h2
 simp only [List.length_append] at h4
 omega
theorem Live.redo {n : Nat} {s : Ses} (h : Live n s) : Live n (z6o s).2 := by
 obtain ⟨_, h2⟩ := zs1 s
 refine ⟨redo_ok h.ok, fun q hq => h.ops q (by rw [<- h2]; exact hq), ?_⟩
 have h3 := h.len
 have h4 := congrArg List.length h2
 simp only [List.length_append] at h4
 omega
def z71 (s : Ses) (p : Ky) : Ses := if p.k = 0 then (z1h s p.o).2 else if p.k = 1 then (z6n s).2 else if p.k = 2 then (z6o s).2 else s
theorem Live.press {n : Nat} {s : Ses} (h : Live n s) {p : Ky} (ho : OpOK p.o) : Live (n + 1) (z71 s p) := by
 unfold z71
 split
 ·exact h.apply ho
 ·split
  ·exact h.undo.mono (by omega)
  ·split
   ·exact h.redo.mono (by omega)
   ·exact h.mono (by omega)
def zs3 (s : Ses) (l : List Ky) : Ses := l.foldl z71 s
theorem zkw (s : Ses) (l : List Ky) (p : Ky) : zs3 s (l ++ [p]) = z71 (zs3 s l) p := by unfold zs3; rw [List.foldl_append]; rfl
theorem Live.run {s : Ses} : ∀ (l : List Ky) {n : Nat}, Live n s -> (∀ p ∈ l, OpOK p.o) -> Live (n + l.length) (zs3 s l) := by
 intro l
 refine zj0 (p := fun l => ∀ {n : Nat}, Live n s -> (∀ p ∈ l, OpOK p.o) -> Live (n + l.length) (zs3 s l)) (fun h _ => h) (fun l o ih n h hl => ?_) l
 rw [zkw, List.length_append, List.length_singleton]
 have h1 := ih h fun p hp => hl p (List.mem_append_left _ hp)
 exact h1.press (hl o (by simp))
section
variable {n : Nat} {s : Ses} (h : Live n s) (hn : n <= 100)
include h hn
theorem Live.trees : ∀ t ∈ trees s.base (s.dn ++ s.un), szB t = true := by
 intro t ht
 unfold Tr.trees at ht
 obtain ⟨k, _, rfl⟩ := List.mem_map.1 ht
 exact (z2e (z65 h.ok.st (zon h.ok.ok k))).1
theorem Live.dsz : szB s.draft = true /\ cntT s.draft <= 1024 /\ depT s.draft <= 8 := z2e h.ok.draft
theorem Live.tcApply {o : Deed} (ho : OpOK o) (k : Nat) : TC Tryz.prog 15 [.ptr k 0, z34 o] k (edO s) (edO (z1h s o).2) (.int .i64 (z1h s o).1) :=
 tc_Apply s h.ok.st (zrc h.ok.ok) (fun q hq => (h.opsD q hq).sz) (by have := h.add; omega) (by have := h.len; omega) (by have := h.len; omega) o ho.sz k
theorem Live.tcApplyR {o : Deed} (ho : OpOK o) (k : Nat) : TC Tryz.prog 50 [.ptr k 0, z34 o] k (stO s) (stO (z1h s o).2) (.int .i64 (z1h s o).1) :=
 zwj s h.ok.st (zrc h.ok.ok) (fun q hq => (h.opsD q hq).sz) (by have := h.add; omega) (by have := h.len; omega) o ho.sz k
theorem Live.tcUndo (k : Nat) : TC Tryz.prog 21 [.ptr k 0] k (edO s) (edO (z6n s).2) (.bool (z6n s).1) :=
 tc_Undo s (by have := h.len; omega) (by have := h.len; omega) k
theorem Live.tcRedo (k : Nat) : TC Tryz.prog 22 [.ptr k 0] k (edO s) (edO (z6o s).2) (.bool (z6o s).1) :=
 tc_Redo s (by have := h.len; omega) (by have := h.len; omega) k
theorem Live.tcUndoR (k : Nat) : TC Tryz.prog 30 [.ptr k 0] k (stO s) (stO (z6n s).2) (.bool (z6n s).1) :=
 zz9 s (by have := h.len; omega) (by have := h.len; omega) k
theorem Live.tcRedoR (k : Nat) : TC Tryz.prog 51 [.ptr k 0] k (stO s) (stO (z6o s).2) (.bool (z6o s).1) :=
 zza s (by have := h.len; omega) (by have := h.len; omega) k
theorem Live.rcDraft (k : Nat) (H : HM) (nx : Nat) (O : k < nx) (hH : H k = some (edO s)) : RC Tryz.prog 18 [.ptr k 0] H nx (z0i s.draft) :=
 zh9 (pc_Draft s h.ok.draft) (ziz _) k H nx O hH
end
theorem zun (s : Ses) : z31 (edO s) = true := z30 s
theorem zuo (s : Ses) : z31 (stO s) = true := zbm s
end
end Go.Proofs.YtlfohdkfpdkhhaaGreatDoor
namespace Go.Proofs.YtlfohdkfpdkhhaaGreatDoor.Glue
open Go.ChangeShapes Go.WideShapes Go.ChangeAt Go.RowKit Abs Facts Tr
set_option maxRecDepth 100000
def S51 : List TypeId := [4, 3, 5, 9, 28, 23, 48, 50, 24, 27, 25, 32, 34, 35]
theorem zlj : zgv Tryz.prog S51 = true := by decide +kernel
theorem zpv {n : Nat} {ds : List D} (h : z4n Tryz.prog n 32 ds) : ∃ o : Deed, ds = z1e o /\ RdO o := by
 obtain ⟨m, rfl, h⟩ := z4q Tryz.underlying32 h
 obtain ⟨d1, r1, rfl, h1, d2, r2, rfl, h2, d3, r3, rfl, h3, d4, r4, rfl, h4, d5, r5, rfl, h5, d6, r6, rfl, h6, d7, r7, rfl, h7, rfl⟩ := h
 obtain ⟨k, rfl, _⟩ := z55 Tryz.underlying3 h1
 obtain ⟨a, rfl, ha1, ha2⟩ := z55 Tryz.underlying3 h2
 obtain ⟨i, rfl⟩ := zjz h3
 obtain ⟨j, rfl⟩ := zjz h4
 obtain ⟨l, rfl, hl1, hl2⟩ := ztk Tryz.underlying28 Tryz.underlying9 zfl h5
 obtain ⟨s, rfl, hs⟩ := zd6 Tryz.underlying9 h6
 obtain ⟨t, rfl, ht⟩ := zig _ h7
 refine ⟨⟨k, a, i, j, l, s, t⟩, ?_, ⟨hl1, hs, hl2, ht, ha1, ha2⟩⟩
 rw [List.append_nil]; rfl
theorem zvn {n : Nat} {ds : List D} (h : z4n Tryz.prog n 34 ds) : ∃ p : Ky, ds = z7u p /\ RdO p.o := by
 obtain ⟨m, rfl, h⟩ := z4q Tryz.underlying34 h
 obtain ⟨d1, r1, rfl, h1, d2, r2, rfl, h2, rfl⟩ := h
 obtain ⟨i, rfl⟩ : ∃ i : Int, d1 = [.int .u8 i] := by
  cases m with
  | zero => cases h1
  | succ m =>
   simp only [z4n, Tryz.underlying5] at h1
   obtain ⟨i, h1, _⟩ := h1
   exact ⟨i, h1⟩
 obtain ⟨o, rfl, ho⟩ := zpv h2
 refine ⟨⟨i, o⟩, ?_, ho⟩
 rw [List.append_nil]; rfl
section
variable {H : Type} {enc : TypeId × Value -> H} {W : World} {base : Nat} {r : Reach} {b0 : Nat} {spare : Nat -> Bool} {held : Bool} {v : Value} {d : DataW H} {p : List MemPlace}
theorem rd_op (hv : Value.okWide Tryz.prog W r b0 32 v) (h : DataW.Trod enc Tryz.prog W base spare held 32 v d p) : ∃ o : Deed, RdO o /\ rel (z74 W) (z34 o) v := by
 obtain ⟨cs, rfl, _⟩ := okWide_struct Tryz.underlying32 hv
 obtain ⟨m, ds, ht, hr⟩ := zy5 zlj (by decide) h
 obtain ⟨q, rfl, hq⟩ := zpv ht
 exact ⟨q, hq, hr⟩
theorem z001 (hv : Value.okWide Tryz.prog W r b0 35 v) (h : DataW.Trod enc Tryz.prog W base spare held 35 v d p) : ∃ l : List Ky, (l.length <= maxLen /\ ∀ q ∈ l, RdO q.o) /\ rel (z74 W) (z8g l) v := by
 obtain ⟨a, n, c, rfl⟩ := okWide_slice Tryz.underlying35 hv
 obtain ⟨m, d', ht, hr⟩ := one_arg zlj (by decide) zyx rfl h
 obtain ⟨m, parts, rfl, hl, hp, he⟩ := z9e Tryz.underlying35 ht
 obtain ⟨l, rfl, hq⟩ := z56 (f := z7u) (q := fun q : Ky => RdO q.o) (fun p hp => zvn hp) parts hp
 refine ⟨l, ⟨by simpa using hl, hq⟩, ?_⟩
 have : d' = z8g l := by
  simp only [List.cons.injEq, and_true] at he
  rw [he, zyw, sizeT34, List.map_map]; rfl
 rw [this] at hr; exact hr
theorem bytesK : Tryz.prog.bytesOf 34 = 232 := by kernel_rfl
theorem rd_keys (hv : Value.okWide Tryz.prog W r b0 35 v) (h : DataW.Trod enc Tryz.prog W base spare held 35 v d p) {ts : List TypeId} {ds : List (DataW H)} (hz : (DataW.weightsEach Tryz.prog ts ds).all (· <= reachBytes) = true) (j : Nat)
  (ht : ts[j]? = some 35) (V : ds[j]? = some d) : ∃ l : List Ky, (l.length <= 606627104962 /\ ∀ q ∈ l, RdO q.o) /\ rel (z74 W) (z8g l) v := by
 obtain ⟨l, ⟨h1, h2⟩, hr⟩ := z001 hv h
 refine ⟨l, ⟨?_, h2⟩, hr⟩
 obtain ⟨m, hm⟩ := h
 obtain ⟨a, n, c, rfl⟩ := okWide_slice Tryz.underlying35 hv
 have hln : l.length = 0 \/ l.length = n := by
  simp only [z8g, rel] at hr
  rcases hr with ⟨_, h3, _⟩ | ⟨a', cap, vs, h3, _⟩
  ·exact .inl (by simpa using h3)
  ·simp only [Value.slice.injEq, List.length_map] at h3
   exact .inr h3.2.1.symm
 rcases DataW.trod_slice Tryz.underlying35 hm with ⟨hc, hx⟩ | ⟨a', len, cap, elems, rest, q, _, hc, hx, _, _, _, hl, _⟩
 ·have hc : [Value.slice a n c] = [.slice none 0 0] := hc
  simp only [List.cons.injEq, Value.slice.injEq, and_true] at hc
  omega
 ·have hc : [Value.slice a n c] = [.slice (some a') len cap] := hc
  simp only [List.cons.injEq, Value.slice.injEq, and_true] at hc
  simp only [Prod.mk.injEq] at hx
  rw [hx.1] at V
  have := sized_slice hz ht V Tryz.underlying35
  rw [bytesK, List.length_map, List.length_map, show reachBytes = 140737488351232 from rfl] at this
  omega
end
end Go.Proofs.YtlfohdkfpdkhhaaGreatDoor.Glue
namespace Go.Proofs.YtlfohdkfpdkhhaaGreatDoor
section
open Abs Facts Tr Go.Lib Go.RowKit
namespace Abs
variable {P : Program}
end Abs
end
section
open Abs Facts Tr
attribute [local irreducible] awp
set_option maxRecDepth 100000
namespace Tr
end Tr
end
section
open Abs Facts Tr
attribute [local irreducible] awp
set_option maxRecDepth 100000
theorem TC_rc {P : Program} {f : FuncId} {ds : List D} {k : Nat} {o : HObj} {r : D} (h : TC P f ds k o o r) : ∀ H nx, k < nx -> H k = some o -> RC P f ds H nx r := fun H nx O hH =>
 (h H nx O hH).mono fun r' H2 n2 ⟨e1, e2, e3⟩ => ⟨e1, by
  rw [e2]; funext q; unfold z13
  by_cases c : q = k
  ·subst c; rw [if_pos rfl]; exact hH.symm
  ·rw [if_neg c], e3⟩
section
variable {n : Nat} {s : Ses} (h : Live n s) (hn : n <= 100)
include h hn
theorem Live.rcLog (k : Nat) : ∀ H nx, k < nx -> H k = some (edO s) -> RC Tryz.prog 20 [.ptr k 0] H nx (z2j s.dn) :=
 TC_rc (tc_Log s (by have := h.len; omega) (by have := h.len; omega) (fun o ho => ⟨(h.opsD o ho).sz.ws, (h.opsD o ho).sz.un⟩) k)
end
theorem zzz {n : Nat} {s : Ses} (h : Live n s) (hn : n <= 100) (p : Ky) (hp : OpOK p.o) {i j : Nat} (hij : i ≠ j) :
  DC Tryz.prog 26 [.ptr i 0, .ptr j 0, zhi p] i j (edO s) (edO (z71 s p)) (stO s) (stO (z71 s p)) (.bool true) := by
 refine DC_frame (k := 1) (ds := [.ptr 0 0, .ptr 1 0, zhi p]) (by simp only [okD.okL, zjw _ (zck p)]; rfl) rfl (zun s) (zun _) (zuo s) (zuo _)
  (z10 [8000002, 4000014, 9000013, 4000018, 9000017, 600014, 900000, 600018, 900001] Tryz.func26 rfl (by decide +kernel) z0f (by decide +kernel) (by simp [Tryz.ntmps26]) ?_) hij (by simp only [List.map_cons, List.map_nil, zcv _ _ (zck p)]; rfl)
 show awp _ _ (Code.seq _ _) _ _
 rw [show Tryz.f26.results.toList = [.tmp 6] from rfl]
 have hkk : (z7u p)[0]? = some (.int .u8 p.k) := rfl
 by_cases k0 : p.k = 0
 ·have hps : z71 s p = (z1h s p.o).2 := by unfold z71; rw [if_pos k0]
  rw [hps]
  have t1 := h.tcApply hn hp 0
  have t2 := h.tcApplyR hn hp 1
  repeat' (first | refine nxt ?_ | ((first | refine zqh fun K J => ?_ | refine zqe (by decide +kernel) fun K J => ?_ | ((refine zcu (t1) ?_ rfl rfl rfl (by decide) ?_ ?_); (focus ((simp (disch := omega) only [go_sem, Nat.reduceBEq]); done)); (focus (((simp (disch := omega) only [go_sem, ↓reduceIte, Nat.reduceLeDiff]); omega)))) | ((refine zcu (t2) ?_ rfl rfl rfl (by decide) ?_ ?_); (focus ((simp (disch := omega) only [go_sem, Nat.reduceBEq]); done)); (focus (((simp (disch := omega) only [go_sem, ↓reduceIte, Nat.reduceLeDiff]); omega))))); (simp (disch := omega) only [go_sem, Nat.reduceBEq, Nat.reduceEqDiff, ↓reduceIte, reduceCtorEq, Nat.reduceAdd, Nat.reduceLeDiff, hkk, zlk, z8h, k0, zhi])) | ((refine zqm _ rfl (fun hc => ?_) (fun hc => ?_)) <;> (first | (cases hc; done) | ((try simp only [] at hc); (try (exfalso; omega))))) | refine zqu (by (simp (disch := omega) only [go_sem, Nat.reduceBEq]); rfl) rfl ?_ | (refine J _ ?_; clear J K))
  refine ⟨⟨_, z02 0 rfl, ?_⟩, ?_, ?_⟩
  ·first | exact Le.refl _ | (simp; exact Le.refl _)
  ·first | rfl | ((simp (disch := omega) only [go_sem, Nat.reduceBEq, Nat.reduceBeqDiff, Nat.reduceEqDiff, ↓reduceIte, reduceCtorEq, Nat.reduceAdd, Nat.reduceMul, Nat.reduceLeDiff, Nat.reduceLT, Int.reduceLT, Int.reduceLE, Int.reduceEq]))
  ·first | rfl | ((simp (disch := omega) only [go_sem, Nat.reduceBEq, Nat.reduceBeqDiff, Nat.reduceEqDiff, ↓reduceIte, reduceCtorEq, Nat.reduceAdd, Nat.reduceMul, Nat.reduceLeDiff, Nat.reduceLT, Int.reduceLT, Int.reduceLE, Int.reduceEq]))
 by_cases k1 : p.k = 1
 ·have hps : z71 s p = (z6n s).2 := by unfold z71; rw [if_neg k0, if_pos k1]
  rw [hps]
  have t1 := h.tcUndo hn 0
  have t2 := h.tcUndoR hn 1
  repeat' (first | refine nxt ?_ | ((first | refine zqh fun K J => ?_ | ((refine z49 (t1) ?_ ?_ ?_); (focus ((simp (disch := omega) only [go_sem, Nat.reduceBEq]); done)); (focus (((simp (disch := omega) only [go_sem]); done)))) | ((refine z49 (t2) ?_ ?_ ?_); (focus ((simp (disch := omega) only [go_sem, Nat.reduceBEq]); done)); (focus (((simp (disch := omega) only [go_sem]); done))))); (simp (disch := omega) only [go_sem, Nat.reduceBEq, ↓reduceIte, reduceCtorEq, Nat.reduceAdd, Int.reduceEq, hkk, k1, zhi])) | ((refine zqm _ rfl (fun hc => ?_) (fun hc => ?_)) <;> (first | (cases hc; done) | ((try simp only [] at hc); (try (exfalso; omega))))) | refine zqu (by (simp (disch := omega) only [go_sem, Nat.reduceBEq]); rfl) rfl ?_ | (refine J _ ?_; clear J K))
  refine ⟨⟨_, z02 0 rfl, ?_⟩, ?_, ?_⟩
  ·first | exact Le.refl _ | (simp; exact Le.refl _)
  ·first | rfl | ((simp (disch := omega) only [go_sem, Nat.reduceBEq, Nat.reduceBeqDiff, Nat.reduceEqDiff, ↓reduceIte, reduceCtorEq, Nat.reduceAdd, Nat.reduceMul, Nat.reduceLeDiff, Nat.reduceLT, Int.reduceLT, Int.reduceLE, Int.reduceEq]))
  ·first | rfl | ((simp (disch := omega) only [go_sem, Nat.reduceBEq, Nat.reduceBeqDiff, Nat.reduceEqDiff, ↓reduceIte, reduceCtorEq, Nat.reduceAdd, Nat.reduceMul, Nat.reduceLeDiff, Nat.reduceLT, Int.reduceLT, Int.reduceLE, Int.reduceEq]))
 by_cases k2 : p.k = 2
 ·have hps : z71 s p = (z6o s).2 := by unfold z71; rw [if_neg k0, if_neg k1, if_pos k2]
  rw [hps]
  have t1 := h.tcRedo hn 0
  have t2 := h.tcRedoR hn 1
  repeat' (first | refine nxt ?_ | ((first | refine zqh fun K J => ?_ | ((refine z49 (t1) ?_ ?_ ?_); (focus ((simp (disch := omega) only [go_sem, Nat.reduceBEq]); done)); (focus (((simp (disch := omega) only [go_sem]); done)))) | ((refine z49 (t2) ?_ ?_ ?_); (focus ((simp (disch := omega) only [go_sem, Nat.reduceBEq]); done)); (focus (((simp (disch := omega) only [go_sem]); done))))); (simp (disch := omega) only [go_sem, Nat.reduceBEq, ↓reduceIte, reduceCtorEq, Nat.reduceAdd, Int.reduceEq, hkk, k2, zhi])) | ((refine zqm _ rfl (fun hc => ?_) (fun hc => ?_)) <;> (first | (cases hc; done) | ((try simp only [] at hc); (try (exfalso; omega))))) | refine zqu (by (simp (disch := omega) only [go_sem, Nat.reduceBEq]); rfl) rfl ?_ | (refine J _ ?_; clear J K))
  refine ⟨⟨_, z02 0 rfl, ?_⟩, ?_, ?_⟩
  ·first | exact Le.refl _ | (simp; exact Le.refl _)
  ·first | rfl | ((simp (disch := omega) only [go_sem, Nat.reduceBEq, Nat.reduceBeqDiff, Nat.reduceEqDiff, ↓reduceIte, reduceCtorEq, Nat.reduceAdd, Nat.reduceMul, Nat.reduceLeDiff, Nat.reduceLT, Int.reduceLT, Int.reduceLE, Int.reduceEq]))
  ·first | rfl | ((simp (disch := omega) only [go_sem, Nat.reduceBEq, Nat.reduceBeqDiff, Nat.reduceEqDiff, ↓reduceIte, reduceCtorEq, Nat.reduceAdd, Nat.reduceMul, Nat.reduceLeDiff, Nat.reduceLT, Int.reduceLT, Int.reduceLE, Int.reduceEq]))
 have hps : z71 s p = s := by unfold z71; rw [if_neg k0, if_neg k1, if_neg k2]
 rw [hps]
 repeat' (first | refine nxt ?_ | ((refine zqh fun K J => ?_); (simp (disch := omega) only [go_sem, Nat.reduceBEq, ↓reduceIte, reduceCtorEq, Nat.reduceAdd, hkk, k0, k1, k2, zhi])) | ((refine zqm _ rfl (fun hc => ?_) (fun hc => ?_)) <;> (first | (cases hc; done) | ((try simp only [] at hc); (try (exfalso; omega))))) | refine zqu (by (simp (disch := omega) only [go_sem, Nat.reduceBEq]); rfl) rfl ?_ | (refine J _ ?_; clear J K))
 refine ⟨⟨_, z02 0 rfl, Le.refl _⟩, ?_, ?_⟩
 ·first | rfl | ((simp (disch := omega) only [go_sem, Nat.reduceBEq, Nat.reduceBeqDiff, Nat.reduceEqDiff, ↓reduceIte, reduceCtorEq, Nat.reduceAdd, Nat.reduceMul, Nat.reduceLeDiff, Nat.reduceLT, Int.reduceLT, Int.reduceLE, Int.reduceEq]))
 ·first | rfl | ((simp (disch := omega) only [go_sem, Nat.reduceBEq, Nat.reduceBeqDiff, Nat.reduceEqDiff, ↓reduceIte, reduceCtorEq, Nat.reduceAdd, Nat.reduceMul, Nat.reduceLeDiff, Nat.reduceLT, Int.reduceLT, Int.reduceLE, Int.reduceEq]))
end
section
open Abs Facts Tr
attribute [local irreducible] awp
set_option maxRecDepth 100000
namespace Tr
def exB : T := .mk Idv.zero 0 ByteArray.empty [] [] [.mk ⟨1, 0, 1⟩ 2 ⟨#[49]⟩ [] [⟨⟨#[97]⟩, ⟨1, 0, 0⟩⟩, ⟨⟨#[98]⟩, ⟨1, 0, 1⟩⟩] []]
def exO : Deed := ⟨0, 0, ⟨1, 0, 1⟩, Idv.zero, [⟨#[99]⟩, ⟨#[98]⟩], ByteArray.empty, T.zero⟩
def exB2 : T := .mk Idv.zero 0 ByteArray.empty [] [] [.mk ⟨1, 0, 1⟩ 2 ⟨#[49]⟩ [] [⟨⟨#[99]⟩, Idv.zero⟩, ⟨⟨#[98]⟩, ⟨1, 0, 1⟩⟩] []]
end Tr
theorem zwm : PC Tryz.prog 31 [] (z0i exB) := by
 refine z1a 3 rfl (z01 _) (z10 [] Tryz.func31 rfl (by decide +kernel) z0f (by decide +kernel) (by simp [Tryz.ntmps31]) ?_)
 show awp _ _ (Code.seq _ _) _ _
 rw [show Tryz.f31.results.toList = [.cell 0 27] from rfl]
 repeat' (first | ((refine zqh fun K J => ?_); (simp (disch := omega) only [go_sem, Nat.reduceBEq, ↓reduceIte, reduceCtorEq, Nat.reduceAdd, Nat.reduceMul, Nat.reduceLeDiff])) | refine nxt ?_ | refine zqu (by (simp (disch := omega) only [go_sem, Nat.reduceBEq, ↓reduceIte, Nat.reduceAdd, Nat.reduceLeDiff]); rfl) rfl ?_ | (refine J _ ?_; clear J K))
 refine z07 ?_ ?_
 ·rfl
 rw [z0i, z0l]
 refine Le.agg ⟨Le.refl _, Le.refl _, Le.refl _, Le.refl _, Le.refl _, Le.nil 4, Le.nil 4, Le.rslL ⟨?_, trivial⟩, trivial⟩
 rw [z0i, z0l]
 exact Le.agg ⟨Le.refl _, Le.refl _, Le.refl _, Le.refl _, Le.refl _, Le.nil 4, Le.rsl, Le.nil 8, trivial⟩
theorem ex_run : doE exB exO 0 = 0 /\ doT exB exO 0 = exB2 := by decide +kernel
theorem AC_le {P : Program} {f : FuncId} {ds es : List D} {H : HM} {nx : Nat} {K : D -> HM -> Nat -> Prop} (h : AC P f es H nx K) (hl : LeL ds es) : AC P f ds H nx K :=
 ⟨h.1, fun s w vs h1 h2 h3 h4 => h.2 s w vs h1 h2 h3 (z78 hl h4)⟩
theorem TC_le {P : Program} {f : FuncId} {ds es : List D} {k : Nat} {o o' : HObj} {r : D} (h : TC P f es k o o' r) (hl : LeL ds es) : TC P f ds k o o' r := fun H nx a b => AC_le (h H nx a b) hl
theorem idx_0 (a : D) (l : List D) : ztw (a :: l) 0 = some a := by unfold ztw; simp
theorem idx_1 (a b : D) (l : List D) : ztw (a :: b :: l) 1 = some b := by unfold ztw; simp; omega
theorem zt3 : PC Tryz.prog 10 [] (.bool true) := by
 obtain ⟨x1, x2⟩ := ex_run
 have hst : standsT exB = true := by decide +kernel
 have hz : szB exB = true := (z2e hst).1
 have hop : OpOK exO := ⟨by decide +kernel, by decide, by decide⟩
 have l0 : Live 0 ⟨exB, [], []⟩ := zkv hst
 have ap : z1h ⟨exB, [], []⟩ exO = (0, ⟨exB, [exO], []⟩) := by
  unfold z1h
  rw [if_pos (show doE (Ses.draft ⟨exB, [], []⟩) exO (z39 []) = 0 from x1)]; rfl
 have l1 : Live 1 ⟨exB, [exO], []⟩ := by have := l0.apply hop; rwa [ap] at this
 have l2 : Live 1 ⟨exB, [], [exO]⟩ := l1.undo
 have d1 : Ses.draft ⟨exB, [exO], []⟩ = exB2 := x2
 have c1 := zwm
 have c2 := zyb exB hst (by decide +kernel)
 have c3 := TC_le (ds := [.ptr 0 0, .agg [.int .i64 0, .int .i64 0, .int .i64 1, .int .i64 0, .int .i64 1, .int .i64 0, .int .i64 0, .int .i64 0, .rsl true 1 [.str ⟨#[99]⟩, .str ⟨#[98]⟩], .str ByteArray.empty, .int .i64 0, .int .i64 0, .int .i64 0, .int .i64 0, .str ByteArray.empty, .nil, .nil, .nil]]) (l0.tcApply (by omega) hop 0) (by
  refine ⟨Le.refl _, ?_, trivial⟩
  rw [z34, z9y]
  exact Le.agg ⟨Le.refl _, Le.refl _, Le.refl _, Le.refl _, Le.refl _, Le.refl _, Le.refl _, Le.refl _, Le.rsl, Le.refl _, Le.refl _, Le.refl _, Le.refl _, Le.refl _, Le.refl _, Le.nil 4, Le.nil 4, Le.nil 8, trivial⟩)
 rw [ap] at c3
 have c4 := l1.rcDraft (by omega) 0
 rw [d1] at c4
 have c5 := l1.tcUndo (by omega) 0
 rw [show z6n ⟨exB, [exO], []⟩ = (true, ⟨exB, [], [exO]⟩) from rfl] at c5
 have c6 := l2.rcDraft (by omega) 0
 rw [show Ses.draft ⟨exB, [], [exO]⟩ = exB from rfl] at c6
 have c7 := znb exB hz exB hz
 rw [decide_eq_true rfl] at c7
 have c8 := l2.tcRedo (by omega) 0
 rw [show z6o ⟨exB, [], [exO]⟩ = (true, ⟨exB, [exO], []⟩) from rfl] at c8
 have c10 := l1.tcRedo (by omega) 0
 rw [show z6o ⟨exB, [exO], []⟩ = (false, ⟨exB, [exO], []⟩) from rfl] at c10
 have hB2 : z09 exB2 = [.int .i64 0, .int .i64 0, .int .i64 0, .int .i64 0, .str ByteArray.empty, .rsl false 4 [], .rsl false 4 [], .rsl false 8 [.agg [.int .i64 1, .int .i64 0, .int .i64 1, .int .i64 2, .str ⟨#[49]⟩, .rsl false 4 [], .rsl false 4 [.agg [.str ⟨#[99]⟩, .int .i64 0, .int .i64 0, .int .i64 0], .agg [.str ⟨#[98]⟩, .int .i64 1, .int .i64 0, .int .i64 1]], .rsl false 8 []]]] := rfl
 refine z1a 1 rfl rfl (z10 [] Tryz.func10 rfl (by decide +kernel) z0f (by decide +kernel) (by simp [Tryz.ntmps10]) ?_)
 show awp _ _ (Code.seq _ _) _ _
 repeat' (first | refine nxt ?_ | ((first | refine zqh fun K J => ?_ | refine zqs (c1) ?_ | refine z6h (c2) ?_ | ((refine z49 (c3) ?_ ?_ ?_); (focus ((simp (disch := omega) only [go_sem]); done)); (focus (((simp (disch := omega) only [go_sem, Nat.reduceLT]); done)))) | ((refine z0u (c4 _ _ ?_ ?_) ?_); (focus (((simp (disch := omega) only [go_sem, Nat.reduceLT]); done))); (focus ((simp (disch := omega) only [go_sem]); done))) | ((refine z49 (c5) ?_ ?_ ?_); (focus ((simp (disch := omega) only [go_sem]); done)); (focus (((simp (disch := omega) only [go_sem, Nat.reduceLT]); done)))) | ((refine z0u (c6 _ _ ?_ ?_) ?_); (focus (((simp (disch := omega) only [go_sem, Nat.reduceLT]); done))); (focus ((simp (disch := omega) only [go_sem]); done))) | refine zqs (c7) ?_ | ((refine z49 (c8) ?_ ?_ ?_); (focus ((simp (disch := omega) only [go_sem]); done)); (focus (((simp (disch := omega) only [go_sem, Nat.reduceLT]); done)))) | ((refine z49 (c10) ?_ ?_ ?_); (focus ((simp (disch := omega) only [go_sem]); done)); (focus (((simp (disch := omega) only [go_sem, Nat.reduceLT]); done))))); (simp (disch := omega) only [go_sem, Nat.reduceBEq, ↓reduceIte, reduceCtorEq, Nat.reduceAdd, Nat.reduceLeDiff, z0i, hB2, idx_0])) | ((refine zqd _ rfl (fun hc => ?_) (fun hc => ?_)) <;> (first | (cases hc; done) | ((try simp only [] at hc); (try (exfalso; omega))))) | refine zqu (by (simp (disch := omega) only [go_sem]); rfl) rfl ?_ | (refine J _ ?_; clear J K) | (refine zqf (fun hb => ?_) (fun hb => ?_) <;> (have hb2 := hb; try simp only [z08] at hb2) <;> ((first | have F := eq_false hb2 | have F := eq_true hb2); (simp (disch := omega) only [go_sem, Nat.reduceBEq, ↓reduceIte, reduceCtorEq, Nat.reduceAdd, Nat.reduceLeDiff, F, idx_0, idx_1]); clear hb F; (try (exfalso; omega)))))
 all_goals exact z03 rfl
def ses0 (t : T) : Ses := ⟨t, [], []⟩
theorem zm6 (a b c d e f g h i j : D) (t : T) : z18 [a, b, c, d, e, f, g, h, i, j] 0 (z09 t) = z09 t ++ [i, j] := by rw [z0l]; rfl
theorem le_state (t : T) : LeL (z09 t ++ [.nil, .nil]) (z3a (ses0 t)) := by
 rw [z3s, z0l]
 exact ⟨Le.refl _, Le.refl _, Le.refl _, Le.refl _, Le.refl _, Le.refl _, Le.refl _, Le.refl _, Le.nil 18, Le.nil 18, trivial⟩
theorem zq1 {u : T} (hs : standsT u = true) {l : List Ky} (ho : ∀ p ∈ l, OpOK p.o) (i : Nat) : Live (0 + (l.take i).length) (zs3 (ses0 u) (l.take i)) :=
 Live.run (l.take i) (zkv hs) fun p hp => ho p (List.mem_of_mem_take hp)
theorem zwe (s : Ses) (l : List Ky) {i : Nat} (hi : i < l.length) : zs3 s (l.take (i + 1)) = z71 (zs3 s (l.take i)) l[i] := by
 rw [List.take_succ_eq_append_getElem hi, zkw]
theorem oc_typed (u : T) (hs : standsT u = true) (hb : (z0k u).any zu6 = false) (l : List Ky) (hl : l.length <= 16) (ho : ∀ p ∈ l, OpOK p.o) :
  OC Tryz.prog 19 [z0i u, z8g l] [edO (zs3 (ses0 u) l), stO (zs3 (ses0 u) l)] (.tup [.ptr 0 0, .ptr 1 0, .bool true]) := by
 have c1 := zyb u hs hb
 refine zau (by simp only [pureD.pureL, z01, zdt, Bool.and_self]) rfl (fun o h => by
  simp only [List.mem_cons, List.mem_nil_iff, or_false] at h
  rcases h with rfl | rfl
  ·exact z30 _
  ·exact zbm _) (z10 [] Tryz.func19 rfl (by decide +kernel) z0f (by decide +kernel) (by simp [Tryz.ntmps19]) ?_)
 show awp _ _ (Code.seq _ _) _ _
 rw [show Tryz.f19.results.toList = [.tmp 4, .tmp 5, .tmp 6] from rfl]
 repeat' (first | ((first | refine z1j (N := 2) rfl fun K J => ?_ | refine z6h (c1) ?_); (simp (disch := omega) only [go_sem, Nat.reduceBEq, ↓reduceIte, Nat.reduceAdd, Nat.reduceLeDiff, z0i])) | (refine J _ ?_; clear J K))
 refine z1i fun K J => ?_
 (try (simp (disch := omega) only [go_sem, Nat.reduceBEq, ↓reduceIte, Nat.reduceAdd, Nat.reduceLeDiff, zm6])); repeat' skip
 refine J _ _ (z5w (b := 2) (e := 61) (cs' := z3a (ses0 u)) (by (simp (disch := omega) only [go_sem, Nat.reduceBEq])) (le_state u)) ?_
 clear J K
 repeat' (first | refine nxt ?_ | ((refine zqh fun K J => ?_); (simp (disch := omega) only [go_sem, Nat.reduceBEq, ↓reduceIte])) | ((refine zqd _ rfl (fun hc => ?_) (fun hc => ?_)) <;> (first | (cases hc; done) | ((try simp only [] at hc); (try (exfalso; omega))))) | (refine J _ ?_; clear J K))
 (refine z3t (fun U st => ∃ (i : _), U = l.length - i /\ st.t 1 = z8g l /\ st.t 7 = .ptr 1 0 /\ st.t 9 = .ptr 2 0 /\ st.t 10 = .int .i64 i /\ st.H 1 = some (edO (zs3 (ses0 u) (l.take i))) /\ st.H 2 = some (stO (zs3 (ses0 u) (l.take i))) /\ (i <= l.length) /\ (3 <= st.nx)) ?_ ?_); rotate_left; (rintro U st ⟨i, rfl, q1, q7, q9, q10, qH1, qH2, qp0, qp1⟩); rotate_left
 ·(refine ⟨_, 0, rfl, ?_⟩); (simp (disch := omega) only [go_sem, Nat.reduceBEq, Nat.reduceLeDiff, true_and, and_true, and_self, Int.natCast_zero, List.take_zero])
  exact ⟨rfl, rfl⟩
 by_cases hi : i < l.length
 ·have hlv := zq1 hs ho i
  have hp := ho _ (List.getElem_mem hi)
  have c2 := zzz hlv (by rw [List.length_take]; omega) l[i] hp (i := 1) (j := 2) (by decide)
  rw [<- zwe _ _ hi] at c2
  repeat' (first | refine nxt ?_ | ((first | refine zqh fun K J => ?_ | refine zqr fun K J => ?_ | ((refine callW_dc (c2) ?_ ?_ ?_ ?_ ?_); (focus ((simp (disch := omega) only [go_sem, qH1]); done)); (focus ((simp (disch := omega) only [go_sem, qH2]); done)); (focus (((simp (disch := omega) only [go_sem]); omega))); (focus (((simp (disch := omega) only [go_sem]); omega))))); (simp (disch := omega) only [go_sem, Nat.reduceBEq, ↓reduceIte, reduceCtorEq, Nat.reduceAdd, q1, q7, q9, q10, z8g, zhi, z8h])) | ((first | refine zqd _ rfl (fun hc => ?_) (fun hc => ?_) | refine zqm _ rfl (fun hc => ?_) (fun hc => ?_)) <;> (first | (cases hc; done) | ((try simp only [z08] at hc); (try (exfalso; omega))))) | (refine J _ ?_; clear J K))
  (refine Exists.intro _ (And.intro ?_ ⟨i + 1, rfl, ?_⟩)); rotate_left; (simp (disch := omega) only [go_sem, Nat.reduceBEq, q1, q7, q9, q10, qH1, qH2, true_and, Int.natCast_add, Int.natCast_one]); rotate_left
  all_goals (repeat' (omega))
 ·have hie : i = l.length := by omega
  subst hie
  rw [List.take_length] at qH1 qH2
  repeat' (first | refine nxt ?_ | ((refine zqh fun K J => ?_); (simp (disch := omega) only [go_sem, Nat.reduceBEq, ↓reduceIte, q1, q7, q9, q10, z8g])) | ((refine zqd _ rfl (fun hc => ?_) (fun hc => ?_)) <;> (((try simp only [z08] at hc); (try (exfalso; omega))))) | refine zqz ?_ | refine zqu (by (simp (disch := omega) only [go_sem, Nat.reduceBEq]); rfl) rfl ?_ | (refine J _ ?_; clear J K))
  refine ⟨fun j => 1 + j, fun i j _ _ h => Nat.add_left_cancel h, ?_, fun j hj => ?_⟩
  ·(simp (disch := omega) only [go_sem, Nat.reduceAdd, renD])
  ·match j, hj with
   | 0, _ => (simp (disch := omega) only [go_sem, qH1])
   | 1, _ => (simp (disch := omega) only [go_sem, Nat.reduceAdd, qH2])
end
section
open Abs Facts Tr
namespace Tr
def backS (s : Ses) (j : Nat) : Ses := ⟨s.base, s.dn.take (s.dn.length - j), s.dn.drop (s.dn.length - j) ++ s.un⟩
end Tr
theorem Live.back {n : Nat} {s : Ses} (h : Live n s) (j : Nat) : Live n (backS s j) := by
 have e : (backS s j).dn ++ (backS s j).un = s.dn ++ s.un := by
  show s.dn.take _ ++ (s.dn.drop _ ++ s.un) = _
  rw [<- List.append_assoc, List.take_append_drop]
 refine ⟨⟨h.ok.st, ?_⟩, fun o ho => h.ops o (by rw [<- e]; exact ho), ?_⟩
 ·rw [e]; exact h.ok.ok
 ·have h3 := h.len
  have h4 := congrArg List.length e
  simp only [List.length_append] at h4
  omega
end
section
open Abs Facts Tr
attribute [local irreducible] awp
set_option maxRecDepth 100000
theorem zy3 : ([Value.int .i64 0, .int .i64 0, .int .i64 0, .int .i64 0, .string { data := #[] }, .slice none 0 0, .slice none 0 0, .slice none 0 0].all fun x => x.oneCell') = true := rfl
theorem ztj {α : Type} : ∀ (A B C : List α), B.length = C.length -> z18 (A ++ B) A.length C = A ++ C := by
 intro A B C
 induction C generalizing A B with
 | nil => intro h; have : B = [] := List.eq_nil_of_length_eq_zero h; subst this; rfl
 | cons c C ih =>
  intro h
  cases B with
  | nil => simp at h
  | cons b B =>
   have h1 : (A ++ b :: B).set A.length c = (A ++ [c]) ++ B := by rw [List.set_append_right _ _ (Nat.le_refl _), Nat.sub_self]; simp
   show z18 ((A ++ b :: B).set A.length c) (A.length + 1) C = _
   rw [h1]
   have := ih (A ++ [c]) B (by simpa using h)
   rw [List.length_append, List.length_singleton] at this
   rw [this, List.append_assoc]; rfl
theorem Le_full {sz : Nat} {els : List D} (h : els ≠ []) : Le (.rsl false sz els) (.rsl true sz els) := fun s v hr => by
 simp only [rel] at hr ⊢
 rcases hr with ⟨_, he, _⟩ | hr
 ·exact (h he).elim
 ·exact .inr hr
theorem gc_Clone (s : Ses) (hz : ∀ t ∈ trees s.base (s.dn ++ s.un), szB t = true) (ho : ∀ o ∈ s.dn ++ s.un, o.words.length <= 1000000 /\ szB o.unit = true) (hl : s.dn.length + s.un.length <= 1000) (k : Nat) :
  ∀ H nx, k < nx -> H k = some (edO s) -> AC Tryz.prog 24 [.ptr k 0] H nx fun r' H' nx' => r' = renD (fun j => nx + j) (.ptr 0 0) /\ H' = zjc H nx [edO s] /\ nx' = nx + [edO s].length := by
 have htl : (trees s.base (s.dn ++ s.un)).length = s.dn.length + s.un.length + 1 := by rw [z8o, List.length_append]
 have hdl : (s.dn ++ s.un).length = s.dn.length + s.un.length := List.length_append
 obtain ⟨TL, hTL⟩ : ∃ TL, TL = trees s.base (s.dn ++ s.un) := ⟨_, rfl⟩
 obtain ⟨OL, hOL⟩ : ∃ OL, OL = s.dn ++ s.un := ⟨_, rfl⟩
 have hce : z15 s = [.rsl true 8 (TL.map z0i), z2j OL, .int .i64 s.dn.length] := by rw [hTL, hOL]; rfl
 rw [<- hTL] at hz htl
 rw [<- hOL] at ho hdl
 refine fun H nx O hH => (GC_frame (ds := [.ptr 0 0]) (r := .ptr 1 0) rfl rfl (show z31 (edO s) = true from z30 s) (show z31 (edO s) = true from z30 s) ?_ k rfl H nx O hH).mono fun r' H' n' ⟨e1, e2, e3⟩ => ⟨e1, e2, e3⟩
 refine (z10 [8000004, 3000025, 3000026, 3000027, 5000028, 3000049, 3000050, 5000051, 600032, 900002, 600034, 900001] Tryz.func24 rfl (by decide +kernel) z0f (by decide +kernel) (by simp [Tryz.ntmps24]) ?_)
 show awp _ _ (Code.seq _ _) _ _
 rw [show Tryz.f24.results.toList = [.tmp 2] from rfl]
 unfold edO
 repeat' (first | ((refine z1j (N := 1) rfl fun K J => ?_); (simp (disch := omega) only [go_sem, hce])) | (refine J _ ?_; clear J K))
 refine z1i fun K J => ?_
 (simp (disch := omega) only [go_sem, Nat.reduceBEq, ↓reduceIte, reduceCtorEq, Nat.reduceAdd, Nat.reduceLeDiff])
 refine J _ _ (SealTo.trans (zef (b := 1) (off := 0) (e := 74) 27 (by (simp (disch := omega) only [go_sem, Nat.reduceBEq]); rfl) rfl) (zef (b := 1) (off := 1) (e := 74) 32 (by (simp (disch := omega) only [go_sem, Nat.reduceBEq]); rfl) rfl)) ?_
 clear J K
 repeat' (first | refine nxt ?_ | ((refine zqh fun K J => ?_); (simp (disch := omega) only [go_sem, Nat.reduceBEq, ↓reduceIte, reduceCtorEq, Nat.reduceAdd, List.set_cons_succ, List.set_cons_zero])) | (refine J _ ?_; clear J K))
 (refine z3t (fun U st => ∃ (i : _), U = TL.length - i /\ st.t 0 = .ptr 0 0 /\ st.t 3 = .ptr 1 0 /\ st.t 17 = .rsl true 8 (TL.map z0i) /\ st.t 18 = .int .i64 TL.length /\ st.t 19 = .int .i64 i /\ st.H 0 = some (.box 74 (z15 s)) /\ st.H 1 = some (.box 74 [.osl 2 i, .osl 3 0, .int .i64 s.dn.length]) /\ st.H 2 = some (.row 27 i ((TL.take i).flatMap z09)) /\ st.H 3 = some (.row 32 0 []) /\ (i <= TL.length) /\ (4 <= st.nx)) ?_ ?_); rotate_left; (rintro U st ⟨i, rfl, q0, q3, q17, q18, q19, qH0, qH1, qH2, qH3, qp0, qp1⟩); rotate_left
 ·(refine ⟨_, 0, rfl, ?_⟩); (simp (disch := omega) only [go_sem, Nat.reduceBEq, Nat.reduceLeDiff, and_self, Int.natCast_zero, List.flatMap_nil, hce])
  all_goals (repeat' skip)
 by_cases hi : i < TL.length
 ·have c1 := z4e TL[i] (hz _ (List.getElem_mem hi))
  have htk := List.take_succ_eq_append_getElem hi
  have hfl : ((TL.take i).flatMap z09).length = i * 8 := by rw [z4l (f := z09) (sz := 8) z0b, List.length_take, Nat.min_eq_left (by omega)]
  have hst : ∀ a b c d e f g h : D, z18 ((TL.take i).flatMap z09 ++ [a, b, c, d, e, f, g, h]) (i * 8) (z09 TL[i]) = (TL.take (i + 1)).flatMap z09 := fun a b c d e f g h => by
   have := ztj ((TL.take i).flatMap z09) [a, b, c, d, e, f, g, h] (z09 TL[i]) (by rw [z0b]; rfl)
   rw [hfl] at this
   rw [this, htk, List.flatMap_append, List.flatMap_singleton]
  repeat' (first | ((first | refine zqh fun K J => ?_ | refine zqr fun K J => ?_ | refine zqq (by decide +kernel) fun K J => ?_ | refine zqt (c1) ?_); (simp (disch := omega) only [go_sem, Nat.reduceBEq, Nat.reduceEqDiff, ↓reduceIte, reduceCtorEq, Nat.reduceAdd, Nat.reduceMul, Nat.reduceLeDiff, Nat.reduceLT, q3, q17, q18, q19, qH1, qH2, z0i, List.set_cons_zero, zy3, hfl, hst])) | ((refine zqd _ rfl (fun hc => ?_) (fun hc => ?_)) <;> (((try simp only [z08] at hc); (try (exfalso; omega))))) | refine nxt ?_ | (refine J _ ?_; clear J K))
  (refine Exists.intro _ (And.intro ?_ ⟨i + 1, rfl, ?_⟩)); rotate_left; (simp (disch := omega) only [go_sem, Nat.reduceBEq, Nat.reduceLeDiff, q0, q3, q17, q18, q19, qH0, qH1, qH2, qH3, true_and, Int.natCast_add, Int.natCast_one]); rotate_left
  all_goals (repeat' (omega))
 ·have hie : i = TL.length := by omega
  subst hie
  rw [List.take_length] at qH2
  repeat' (first | refine nxt ?_ | ((refine zqh fun K J => ?_); (simp (disch := omega) only [go_sem, Nat.reduceBEq, ↓reduceIte, reduceCtorEq, Nat.reduceAdd, q0, q18, q19, qH0, hce, z2j])) | ((refine zqd _ rfl (fun hc => ?_) (fun hc => ?_)) <;> (((try simp only [z08] at hc); (try (exfalso; omega))))) | refine zqz ?_ | (refine J _ ?_; clear J K))
  (refine z3t (fun U st => ∃ (m : _), U = OL.length - m /\ st.t 0 = .ptr 0 0 /\ st.t 3 = .ptr 1 0 /\ st.t 39 = .rsl false 18 (OL.map z34) /\ st.t 40 = .int .i64 OL.length /\ st.t 41 = .int .i64 m /\ st.H 0 = some (.box 74 (z15 s)) /\ st.H 1 = some (.box 74 [.osl 2 TL.length, .osl 3 m, .int .i64 s.dn.length]) /\ st.H 2 = some (.row 27 TL.length (TL.flatMap z09)) /\ st.H 3 = some (.row 32 m ((OL.take m).flatMap z1e)) /\ (m <= OL.length) /\ (4 <= st.nx)) ?_ ?_); rotate_left; (rintro U st ⟨m, rfl, r0, r3, r39, r40, r41, rH0, rH1, rH2, rH3, rp0, rp1⟩); rotate_left
  ·(refine ⟨_, 0, rfl, ?_⟩); (simp (disch := omega) only [go_sem, Nat.reduceBEq, q0, q3, qH0, qH1, qH2, qH3, true_and, Int.natCast_zero, List.flatMap_nil, hce, z2j])
   all_goals (repeat' (omega))
  by_cases hm : m < OL.length
  ·have hg := ho _ (List.getElem_mem hm)
   have c2 := z9x OL[m] hg.1 hg.2
   have htk := List.take_succ_eq_append_getElem hm
   repeat' (first | ((first | refine zqh fun K J => ?_ | refine zqr fun K J => ?_ | refine zqq (by decide +kernel) fun K J => ?_ | refine zqt (c2) ?_); (simp (disch := omega) only [go_sem, Nat.reduceBEq, Nat.reduceEqDiff, ↓reduceIte, reduceCtorEq, Nat.reduceAdd, Nat.reduceMul, Nat.reduceLeDiff, Nat.reduceLT, r3, r39, r40, r41, rH1, rH3, z34, List.set_cons_succ, List.set_cons_zero, zj2])) | ((refine zqd _ rfl (fun hc => ?_) (fun hc => ?_)) <;> (((try simp only [z08] at hc); (try (exfalso; omega))))) | refine nxt ?_ | (refine J _ ?_; clear J K))
   (refine Exists.intro _ (And.intro ?_ ⟨m + 1, rfl, ?_⟩)); rotate_left; (simp (disch := omega) only [go_sem, Nat.reduceBEq, Nat.reduceLeDiff, r0, r3, r39, r40, r41, rH0, rH1, rH2, rH3, true_and, Int.natCast_add, Int.natCast_one, List.flatMap_append, List.flatMap_cons, List.flatMap_nil, List.append_nil, htk]); rotate_left
   all_goals (repeat' (omega))
  ·have hme : m = OL.length := by omega
   subst hme
   rw [List.take_length] at rH3
   repeat' (first | ((refine zqh fun K J => ?_); (simp (disch := omega) only [go_sem, ↓reduceIte, r40, r41])) | ((refine zqd _ rfl (fun hc => ?_) (fun hc => ?_)) <;> (((try simp only [z08] at hc); (try (exfalso; omega))))) | refine nxt ?_ | (refine J _ ?_; clear J K))
   have u2 : pureD.pureL (TL.flatMap z09) = true := z1q z04 _
   have u3 := z6t OL
   have v2 : z1x true 8 TL.length (TL.flatMap z09) = TL.map z0i := z5l (f := z09) (sz := 8) z0b TL
   have v3 := z5x OL
   refine zqz (zfr _ (SealTo.trans (zjb (id := 2) (e := 27) (k := TL.length) (cs := TL.flatMap z09) (by (simp (disch := omega) only [go_sem, rH2])) (by decide +kernel) u2) (SealTo.trans (zjb (id := 3) (e := 32) (k := OL.length) (cs := OL.flatMap z1e) (by (simp (disch := omega) only [go_sem, Nat.reduceBEq, rH3]); rw [z8d _ u3]) (by decide +kernel) u3) (z5w (b := 1) (e := 74) (cs := [.rsl false 8 (TL.map z0i), .rsl false 18 (OL.map z34), .int .i64 s.dn.length]) (cs' := z15 s) ?_ ?_))) ?_)
   ·(simp (disch := omega) only [go_sem, Nat.reduceBEq, rH1, v2, v3])
   ·rw [hce]
    refine ⟨Le_full ?_, Le.refl _, Le.refl _, trivial⟩
    intro h
    have := congrArg List.length h
    rw [List.length_map, List.length_nil] at this
    omega
   have u4 := z8d (P := Tryz.prog) (id := 2) (e := 27) (k := TL.length) (cs := TL.flatMap z09) (z15 s) (z30 s)
   have u5 := z8d (P := Tryz.prog) (id := 3) (e := 32) (k := OL.length) (cs := OL.flatMap z1e) (z15 s) (z30 s)
   repeat' (first | ((refine zqh fun K J => ?_); (simp (disch := omega) only [go_sem, Nat.reduceBEq, r3])) | refine nxt ?_ | refine zqu (by (simp (disch := omega) only [go_sem, Nat.reduceBEq]); rfl) rfl ?_ | (refine J _ ?_; clear J K))
   refine ⟨fun j => j, rfl, Nat.le_refl 1, rfl, ?_, ?_⟩
   ·(simp (disch := omega) only [go_sem, Nat.reduceBEq, rH0, u4, u5])
    all_goals first | done | rfl
   ·(simp (disch := omega) only [go_sem, Nat.reduceBEq, rH1])
    all_goals first | done | rfl
theorem few_snoc {u : T} {l : List Ky} {o : Deed} (hl : ∀ q ∈ l, RdO q.o) (ho : RdO o) : ∀ q ∈ (⟨0, o⟩ :: l : List Ky), RdO q.o := fun q hq => by
 rcases List.mem_cons.1 hq with rfl | hq
 ·exact ho
 ·exact hl q hq
theorem zmr (l : List Ky) : z1x true 19 l.length (l.flatMap z7u) = l.map zhi := z5l (f := z7u) (sz := 19) z8h l
theorem zor (p : Ky) : pureD.pureL (z7u p) = true := zck p
theorem z57 : ∀ l : List Ky, z1m 19 (l.map zhi) = some (l.flatMap z7u)
 | [] => rfl
 | p :: l => by
  rw [List.map_cons, List.flatMap_cons]
  unfold z1m
  rw [z57 l]
  show (if (z7u p).length = 19 then _ else _) = _
  rw [z8h]; rfl
theorem zba (z a0 a1 a2 a3 a4 a5 a6 a7 a8 a9 b0 b1 b2 b3 b4 b5 b6 b7 : D) (o : Deed) : z18 [z, a0, a1, a2, a3, a4, a5, a6, a7, a8, a9, b0, b1, b2, b3, b4, b5, b6, b7] 1 (z1e o) = z :: z1e o := by rw [z9y]; simp only [z18, List.set_cons_zero, List.set_cons_succ]
theorem zos (u : T) (hfu : fitB u = true) (l : List Ky) (hl : l.length <= 606627104962) (hr : ∀ q ∈ l, RdO q.o) (o : Deed) (hro : RdO o) : PC Tryz.prog 5 [z0i u, z8g l, z34 o] (.bool true) := by
 have c0 := zt3
 have hr2 := few_snoc (u := u) hr hro
 have c1 := pc_fewL u hfu (⟨0, o⟩ :: l) (by rw [List.length_cons]; omega) fun p hp => (hr2 p hp).use
 have hgk := zmr (⟨0, o⟩ :: l)
 rw [List.length_cons, List.flatMap_cons, Nat.add_comm] at hgk
 have hgk : z1x true 19 (1 + l.length) (.int .u8 0 :: (z1e o ++ l.flatMap z7u)) = (⟨0, o⟩ :: l : List Ky).map zhi := hgk
 have hpk : pureD.pureL (l.flatMap z7u) = true := z1q zor l
 refine z1a 1 (by simp only [pureD.pureL, z01, zdt, z3e, Bool.and_self]) rfl (z10 [8000006, 19, 3000016, 3000017, 2000021, 4000068, 600068, 900003, 600057, 900005] Tryz.func5 rfl (by decide +kernel) z0f (by decide +kernel) (by simp [Tryz.ntmps5]) ?_)
 show awp _ _ (Code.seq _ _) _ _
 by_cases hf : (decide ((⟨0, o⟩ :: l : List Ky).length <= 16) && zxd u 40 && ((⟨0, o⟩ :: l : List Ky).map (·.o)).all fewO) = true
 ·rw [hf] at c1
  obtain ⟨z1, z2, z3, hl16, ho2⟩ := zze hr2 hf
  have hop : OpOK o := ho2 ⟨0, o⟩ List.mem_cons_self
  have ho : ∀ p ∈ l, OpOK p.o := fun p hp => ho2 p (List.mem_cons_of_mem _ hp)
  rw [List.length_cons] at hl16
  have hl16 : l.length <= 16 := by omega
  have c2 := pc_MayE u z1 (by omega) (by omega)
  by_cases hm : (!(z0k u).any zu6 && standsT u) = true
  ·rw [hm] at c2
   rw [Bool.and_eq_true, Bool.not_eq_true'] at hm
   have c3 := oc_typed u hm.2 hm.1 l hl16 ho
   have hlv := zq1 hm.2 ho l.length
   rw [List.take_length] at hlv
   have hn : 0 + l.length <= 98 := by omega
   obtain ⟨s, hs⟩ : ∃ s, s = zs3 (ses0 u) l := ⟨_, rfl⟩
   rw [<- hs] at c3 hlv
   have hsl := hlv.len
   obtain ⟨w1, w2, w3⟩ := hlv.dsz (by omega)
   have t0 := hlv.rcDraft (by omega) 3
   have t1 := hlv.rcLog (by omega) 3
   have t2 := z4c s.draft w1 (by omega) (by omega)
   rw [show standsT s.draft = true from hlv.ok.draft] at t2
   have t3 := gc_Clone s (hlv.trees (by omega)) (fun q hq => ⟨(hlv.ops q hq).sz.ws, (hlv.ops q hq).sz.un⟩) (by omega) 3
   have t4 := hlv.tcRedo (by omega) 6
   have t5 := hlv.tcApply (by omega) hop 3
   by_cases he : doE s.draft o (z39 s.dn) = 0
   ·have ha : z1h s o = (0, ⟨s.base, s.dn ++ [o], []⟩) := by unfold z1h; rw [if_pos he]
    have l2 := hlv.apply hop
    rw [ha] at t5 l2
    have t6 := l2.rcLog (by omega) 3
    have t7 := l2.tcRedo (by omega) 3
    rw [show z6o ⟨s.base, s.dn ++ [o], []⟩ = (false, ⟨s.base, s.dn ++ [o], []⟩) from rfl] at t7
    have t8 := l2.rcDraft (by omega) 3
    obtain ⟨v1, v2, v3⟩ := l2.dsz (by omega)
    have t9 := z4c _ v1 (by omega) (by omega)
    rw [show standsT (Ses.draft ⟨s.base, s.dn ++ [o], []⟩) = true from l2.ok.draft] at t9
    have hln : (s.dn ++ [o]).length = s.dn.length + 1 := by simp
    repeat' (first | refine nxt ?_ | ((first | refine zqh fun K J => ?_ | refine zqe (by decide +kernel) fun K J => ?_ | refine zqt (c0) ?_ | refine zqt (c1) ?_ | refine zqt (c2) ?_ | refine z6h (c3) ?_ | ((refine z0u (t0 _ _ ?_ ?_) ?_); (focus (((simp (disch := omega) only [go_sem]); done))); (focus ((simp (disch := omega) only [go_sem, Nat.reduceBEq]); done))) | ((refine z0u (t1 _ _ ?_ ?_) ?_); (focus (((simp (disch := omega) only [go_sem]); done))); (focus ((simp (disch := omega) only [go_sem, Nat.reduceBEq]); done))) | refine zqs (t2) ?_ | ((refine zri (t3) ?_ ?_ ?_); (focus ((simp (disch := omega) only [go_sem, Nat.reduceBEq]); done)); (focus (((simp (disch := omega) only [go_sem]); done)))) | ((refine z49 (t4) ?_ ?_ ?_); (focus ((simp (disch := omega) only [go_sem, Nat.reduceBEq]); done)); (focus (((simp (disch := omega) only [go_sem, Nat.reduceLT]); done)))) | ((refine z49 (t5) ?_ ?_ ?_); (focus ((simp (disch := omega) only [go_sem, Nat.reduceBEq]); done)); (focus (((simp (disch := omega) only [go_sem]); done)))) | ((refine z0u (t6 _ _ ?_ ?_) ?_); (focus (((simp (disch := omega) only [go_sem]); done))); (focus ((simp (disch := omega) only [go_sem, Nat.reduceBEq]); done))) | ((refine z49 (t7) ?_ ?_ ?_); (focus ((simp (disch := omega) only [go_sem, Nat.reduceBEq]); done)); (focus (((simp (disch := omega) only [go_sem]); done)))) | ((refine z0u (t8 _ _ ?_ ?_) ?_); (focus (((simp (disch := omega) only [go_sem]); done))); (focus ((simp (disch := omega) only [go_sem, Nat.reduceBEq]); done))) | refine zqs (t9) ?_); (simp (disch := omega) only [go_sem, Nat.reduceBEq, Nat.reduceEqDiff, ↓reduceIte, reduceCtorEq, Nat.reduceAdd, Nat.reduceMul, Nat.reduceLeDiff, Nat.reduceLT, z0i, z8g, z34, z2j, zj3, zba, z57, hgk, hpk, List.append_nil, hln])) | ((refine zqd _ rfl (fun hc => ?_) (fun hc => ?_)) <;> (first | (cases hc; done) | ((try simp only [] at hc); (try (exfalso; omega))))) | refine zqu (by (simp (disch := omega) only [go_sem]); rfl) rfl ?_ | (refine J _ ?_; clear J K) | (refine zqf (fun hb => ?_) (fun hb => ?_) <;> (have hb2 := hb; try simp only [z08] at hb2) <;> ((first | have F := eq_false hb2 | have F := eq_true hb2); (simp (disch := omega) only [go_sem, Nat.reduceBEq, ↓reduceIte, F]); clear hb F; (try (exfalso; omega)))))
    all_goals first | exact z03 rfl | exact z03 (by simp)
   ·have ha : z1h s o = (doE s.draft o (z39 s.dn), s) := by unfold z1h; rw [if_neg he]
    rw [ha] at t5
    have t6 := hlv.tcRedo (by omega) 3
    have t7 := znb s.draft w1 s.draft w1
    rw [decide_eq_true rfl] at t7
    repeat' (first | refine nxt ?_ | ((first | refine zqh fun K J => ?_ | refine zqe (by decide +kernel) fun K J => ?_ | refine zqt (c0) ?_ | refine zqt (c1) ?_ | refine zqt (c2) ?_ | refine z6h (c3) ?_ | ((first | refine z0u (t0 _ _ ?_ ?_) ?_ | refine zq0 (t0 _ _ ?_ ?_) rfl ?_); (focus (((simp (disch := omega) only [go_sem]); done))); (focus ((simp (disch := omega) only [go_sem, Nat.reduceBEq]); done))) | ((first | refine z0u (t1 _ _ ?_ ?_) ?_ | refine zq0 (t1 _ _ ?_ ?_) rfl ?_); (focus (((simp (disch := omega) only [go_sem]); done))); (focus ((simp (disch := omega) only [go_sem, Nat.reduceBEq]); done))) | refine zqs (t2) ?_ | ((refine zri (t3) ?_ ?_ ?_); (focus ((simp (disch := omega) only [go_sem, Nat.reduceBEq]); done)); (focus (((simp (disch := omega) only [go_sem]); done)))) | ((refine z49 (t4) ?_ ?_ ?_); (focus ((simp (disch := omega) only [go_sem, Nat.reduceBEq]); done)); (focus (((simp (disch := omega) only [go_sem, Nat.reduceLT]); done)))) | ((refine z49 (t5) ?_ ?_ ?_); (focus ((simp (disch := omega) only [go_sem, Nat.reduceBEq]); done)); (focus (((simp (disch := omega) only [go_sem]); done)))) | ((refine zcu (t6) ?_ rfl rfl rfl (by decide) ?_ ?_); (focus ((simp (disch := omega) only [go_sem, Nat.reduceBEq]); done)); (focus (((simp (disch := omega) only [go_sem, ↓reduceIte, Nat.reduceLeDiff]); omega)))) | refine zqt (t7) ?_); (simp (disch := omega) only [go_sem, Nat.reduceBEq, Nat.reduceEqDiff, ↓reduceIte, reduceCtorEq, Nat.reduceAdd, Nat.reduceMul, Nat.reduceLeDiff, Nat.reduceLT, z0i, z8g, z34, z2j, zj3, zba, z57, hgk, hpk, List.append_nil])) | ((refine zqd _ rfl (fun hc => ?_) (fun hc => ?_)) <;> (first | (cases hc; done) | ((try simp only [z08] at hc); (try (exfalso; omega))))) | refine zqu (by (simp (disch := omega) only [go_sem]); rfl) rfl ?_ | (refine J _ ?_; clear J K))
    all_goals first | exact z03 rfl | exact z03 (by simp)
  ·rw [Bool.not_eq_true] at hm
   rw [hm] at c2
   repeat' (first | refine nxt ?_ | ((first | refine zqh fun K J => ?_ | refine zqe (by decide +kernel) fun K J => ?_ | refine zqs (c0) ?_ | refine zqt (c0) ?_ | refine zqt (c1) ?_ | refine zqt (c2) ?_); (simp (disch := omega) only [go_sem, Nat.reduceBEq, Nat.reduceEqDiff, ↓reduceIte, reduceCtorEq, Nat.reduceAdd, Nat.reduceMul, Nat.reduceLeDiff, Nat.reduceLT, z0i, z8g, z34, zj3, zba, z57, hgk, hpk, List.append_nil])) | ((refine zqd _ rfl (fun hc => ?_) (fun hc => ?_)) <;> (first | (cases hc; done) | ((try simp only [] at hc); (try (exfalso; omega))))) | refine zqu (by (simp (disch := omega) only [go_sem]); rfl) rfl ?_ | (refine J _ ?_; clear J K))
   all_goals exact z03 rfl
 ·rw [Bool.not_eq_true] at hf
  rw [hf] at c1
  repeat' (first | refine nxt ?_ | ((first | refine zqh fun K J => ?_ | refine zqe (by decide +kernel) fun K J => ?_ | refine zqs (c0) ?_ | refine zqt (c0) ?_ | refine zqt (c1) ?_); (simp (disch := omega) only [go_sem, Nat.reduceBEq, Nat.reduceEqDiff, ↓reduceIte, reduceCtorEq, Nat.reduceAdd, Nat.reduceMul, Nat.reduceLeDiff, Nat.reduceLT, z0i, z8g, z34, zj3, zba, z57, hgk, hpk, List.append_nil])) | ((refine zqd _ rfl (fun hc => ?_) (fun hc => ?_)) <;> (first | (cases hc; done) | ((try simp only [] at hc); (try (exfalso; omega))))) | refine zqu (by (simp (disch := omega) only [go_sem]); rfl) rfl ?_ | (refine J _ ?_; clear J K))
  all_goals exact z03 rfl
end
end Go.Proofs.YtlfohdkfpdkhhaaGreatDoor
