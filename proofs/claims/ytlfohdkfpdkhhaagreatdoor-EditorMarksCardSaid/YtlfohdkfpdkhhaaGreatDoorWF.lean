import Derived.Test.YtlfohdkfpdkhhaaGreatDoorWE
import Derived.SizedLaws
/-
 Lemmas of the claim. No condition but those that each names.
-/
set_option linter.unusedSimpArgs false
set_option linter.unusedVariables false
set_option maxHeartbeats 8000000
set_option linter.unusedSectionVars false
namespace Go.Proofs.YtlfohdkfpdkhhaaGreatDoor
section
open Abs Facts Tr
attribute [local irreducible] awp
set_option maxRecDepth 100000
def z005 (u : T) (b : Bool) : List HObj := [.box 27 (z0b u), .box 4 [.bool b], .box 88 [.fn 56 [.ptr 1 0, .ptr 2 0]]]
theorem low_N (u : T) : Low 3 fun b H => ∀ j, j < 3 -> H j = (z005 u b)[j]? := zi3 (z005 u) (fun _ => rfl) fun b o ho => by
 simp only [z005, List.mem_cons, List.not_mem_nil, or_false] at ho
 rcases ho with rfl | rfl | rfl
 ·exact zd3 _ _
 ·rfl
 ·rfl
theorem zel {α : Type} {f : α -> Bool} {l : List α} {i : Nat} (c : Bool) (h : i < l.length) : (c && (l.take i).all f && f l[i]) = (c && (l.take (i + 1)).all f) := by
 rw [List.take_succ_eq_append_getElem h, List.all_append, Bool.and_assoc]; simp
theorem znh (u : T) : ∀ x : T, szB x = true -> ∀ b : Bool, Eff Tryz.prog 56 [z0h x, .ptr 1 0, .ptr 2 0] 3 (fun b H => ∀ j, j < 3 -> H j = (z005 u b)[j]?) b (b && z1u x) (.tup []) := by
 refine z5p fun x ih hs b => ?_
 obtain ⟨h0, h1, g1, h2, g2, h3, h4⟩ := (z2w x).1 hs
 refine zb4 (low_N u) rfl fun H nx hlo hI => ?_
 have e0 : H 0 = some (.box 27 (z0b u)) := hI 0 (by omega)
 have e1 : H 1 = some (.box 4 [.bool b]) := hI 1 (by omega)
 have e2 : H 2 = some (.box 88 [.fn 56 [.ptr 1 0, .ptr 2 0]]) := hI 2 (by omega)
 have n0 : (0 == nx) = false := by simp; omega
 have n1 : (1 == nx) = false := by simp; omega
 have n2 : (2 == nx) = false := by simp; omega
 have m1 : (nx == 1) = false := by simp; omega
 have m2 : (nx == 2) = false := by simp; omega
 refine (z17 [] Tryz.func56 rfl (by decide +kernel) z0e (by decide +kernel) (by simp [Tryz.ntmps56]) ?_)
 show awp _ _ (Code.seq _ _) _ _
 rw [zfo]
 have hcase : (b = false) \/ (b = true /\ x.kind = 0) \/ (b = true /\ ¬ x.kind = 0 /\ x.id = Idv.zero) \/ (b = true /\ ¬ x.kind = 0 /\ ¬ x.id = Idv.zero) := by
  by_cases h1 : x.kind = 0 <;> by_cases h2 : x.id = Idv.zero <;> cases b <;> simp [h1, h2]
 have hzz : x.id = Idv.zero ↔ (x.id.act = 0 /\ x.id.item = 0 /\ x.id.n = 0) := ⟨fun h => by rw [h]; exact ⟨rfl, rfl, rfl⟩, fun ⟨a, b, c⟩ => by
  cases hx : x.id with
  | mk p q r => rw [hx] at a b c; simp only at a b c; subst a; subst b; subst c; rfl⟩
 rcases hcase with rfl | ⟨rfl, hk⟩ | ⟨rfl, hk, hz⟩ | ⟨rfl, hk, hz⟩
 ·have hcv : ∀ r : Bool, (false && ((decide (x.kind = 0) || decide (x.id ≠ Idv.zero)) && r)) = (false && r) := fun r => by rfl
  rw [hcv]
  repeat' (first | ((refine zqh fun K J => ?_); (simp (disch := omega) only [go_sem, Nat.reduceBEq, ↓reduceIte, reduceCtorEq, Nat.reduceAdd, Nat.reduceLeDiff, Nat.reduceLT, e1, n1, m1])) | refine zqi ?_ | (refine J _ ?_; clear J K))
  (refine z4t (fun U st => ∃ (i : _), U = x.kids.length - i /\ st.t 1 = .ptr 1 0 /\ st.t 2 = .ptr 2 0 /\ st.t 19 = z18 x.kids /\ st.t 20 = .int .i64 x.kids.length /\ st.t 21 = .int .i64 i /\ st.H 0 = some (.box 27 (z0b u)) /\ st.H 1 = some (.box 4 [.bool (false && (x.kids.take i).all z1u)]) /\ st.H 2 = some (.box 88 [.fn 56 [.ptr 1 0, .ptr 2 0]]) /\ (i <= x.kids.length) /\ (nx < st.nx) /\ (∀ id, 3 <= id -> id < nx -> st.H id = H id)) ?_ ?_); rotate_left; (rintro U st ⟨i, rfl, q1, q2, q19, q20, q21, qH0, qH1, qH2, qp0, qp1, qp2⟩); rotate_left
  ·(refine ⟨_, 0, rfl, ?_⟩); (simp (disch := omega) only [go_sem, Nat.reduceBEq, true_and, Int.natCast_zero, z18, e0, e1, e2, n0, n1, n2])
   first
    | exact ⟨Nat.lt_succ_self _, fun id h1 h2 => by simp (disch := omega) only [z2d]⟩
    | exact ⟨rfl, Nat.lt_succ_self _, fun id h1 h2 => by simp (disch := omega) only [z2d]⟩
  by_cases hi : i < x.kids.length
  ·repeat' (first | ((first | refine zqh fun K J => ?_ | refine zqr fun K J => ?_); (simp (disch := omega) only [go_sem, Nat.reduceBEq, ↓reduceIte, reduceCtorEq, Nat.reduceAdd, Nat.reduceLeDiff, q2, q19, q20, q21, qH2, z18])) | ((refine zqd _ rfl (fun hc => ?_) (fun hc => ?_)) <;> (((try simp only [z09] at hc); (try (exfalso; omega))))) | refine zqa ?_ | refine zqb ?_ | (refine J _ ?_; clear J K))
   refine z4f (ih x.kids[i] (List.getElem_mem hi) (h4 _ (List.getElem_mem hi)) (false && (x.kids.take i).all z1u)) (by show 3 <= st.nx + 1; omega) (fun j hj => ?_) fun H2 hs2 hH2 => ?_
   ·have e : ∀ a b, z14 (z14 st.H st.nx a) st.nx b j = st.H j := fun a b => by unfold z14; rw [if_neg (by omega), if_neg (by omega)]
    refine (e _ _).trans ?_
    match j, hj with
    | 0, _ => exact qH0
    | 1, _ => exact qH1
    | 2, _ => exact qH2
   have k0 : H2 0 = some (.box 27 (z0b u)) := hs2 0 (by omega)
   have k1 : H2 1 = some (.box 4 [.bool (false && (x.kids.take i).all z1u && z1u x.kids[i])]) := hs2 1 (by omega)
   have k2 : H2 2 = some (.box 88 [.fn 56 [.ptr 1 0, .ptr 2 0]]) := hs2 2 (by omega)
   have kk : ∀ id, 3 <= id -> id < nx -> H2 id = H id := fun id a b => by
    have e := hH2 id a
    refine e.trans ?_
    refine Eq.trans ?_ (qp2 id a b)
    show z14 (z14 st.H st.nx _) st.nx _ id = _
    unfold z14; rw [if_neg (by omega), if_neg (by omega)]
   clear hH2
   (try (simp (disch := omega) only [go_sem])); repeat' (first | ((refine zqr fun K J => ?_); (simp (disch := omega) only [go_sem, Nat.reduceBEq, ↓reduceIte, q21])) | refine zqv ?_ | refine zqy ?_ | (refine J _ ?_; clear J K))
   (refine Exists.intro _ (And.intro ?_ ⟨i + 1, rfl, ?_⟩)); rotate_left; (simp (disch := omega) only [go_sem, Nat.reduceBEq, q1, q2, q19, q20, q21, true_and, Int.natCast_add, Int.natCast_one, k0, k1, k2]); rotate_left
   all_goals first | omega | exact ⟨by omega, kk⟩ | exact ⟨by rw [show ((x.kids.take i).all z1u && z1u x.kids[i]) = (x.kids.take (i + 1)).all z1u from by have h := zel (f := z1u) true hi; simpa using h], by omega, kk⟩
  ·have hie : i = x.kids.length := by omega
   subst hie
   rw [List.take_length] at qH1
   repeat' (first | ((refine zqh fun K J => ?_); (simp (disch := omega) only [go_sem, ↓reduceIte, q20, q21])) | ((refine zqd _ rfl (fun hc => ?_) (fun hc => ?_)) <;> (((try simp only [z09] at hc); (try (exfalso; omega))))) | refine zqc ?_ | refine zqz ?_ | refine zqp ?_ | refine zqu (by (simp (disch := omega) only [go_sem]); rfl) rfl ?_ | (refine J _ ?_; clear J K))
   refine ⟨rfl, fun j hj => ?_, fun id a b => qp2 id a b⟩
   match j, hj with
   | 0, _ => exact qH0
   | 1, _ => exact qH1
   | 2, _ => exact qH2
 ·have hcv : ∀ r : Bool, (true && ((decide (x.kind = 0) || decide (x.id ≠ Idv.zero)) && r)) = (true && r) := fun r => by rw [decide_eq_true hk]; rfl
  rw [hcv]
  repeat' (first | ((refine zqh fun K J => ?_); (simp (disch := omega) only [go_sem, Nat.reduceBEq, ↓reduceIte, reduceCtorEq, Nat.reduceAdd, Nat.reduceLeDiff, Nat.reduceLT, e1, n1, m1, hk])) | refine zqi ?_ | (refine J _ ?_; clear J K))
  (refine z4t (fun U st => ∃ (i : _), U = x.kids.length - i /\ st.t 1 = .ptr 1 0 /\ st.t 2 = .ptr 2 0 /\ st.t 19 = z18 x.kids /\ st.t 20 = .int .i64 x.kids.length /\ st.t 21 = .int .i64 i /\ st.H 0 = some (.box 27 (z0b u)) /\ st.H 1 = some (.box 4 [.bool (true && (x.kids.take i).all z1u)]) /\ st.H 2 = some (.box 88 [.fn 56 [.ptr 1 0, .ptr 2 0]]) /\ (i <= x.kids.length) /\ (nx < st.nx) /\ (∀ id, 3 <= id -> id < nx -> st.H id = H id)) ?_ ?_); rotate_left; (rintro U st ⟨i, rfl, q1, q2, q19, q20, q21, qH0, qH1, qH2, qp0, qp1, qp2⟩); rotate_left
  ·(refine ⟨_, 0, rfl, ?_⟩); (simp (disch := omega) only [go_sem, Nat.reduceBEq, true_and, Int.natCast_zero, z18, e0, e1, e2, n0, n1, n2])
   first
    | exact ⟨Nat.lt_succ_self _, fun id h1 h2 => by simp (disch := omega) only [z2d]⟩
    | exact ⟨rfl, Nat.lt_succ_self _, fun id h1 h2 => by simp (disch := omega) only [z2d]⟩
  by_cases hi : i < x.kids.length
  ·repeat' (first | ((first | refine zqh fun K J => ?_ | refine zqr fun K J => ?_); (simp (disch := omega) only [go_sem, Nat.reduceBEq, ↓reduceIte, reduceCtorEq, Nat.reduceAdd, Nat.reduceLeDiff, q2, q19, q20, q21, qH2, z18])) | ((refine zqd _ rfl (fun hc => ?_) (fun hc => ?_)) <;> (((try simp only [z09] at hc); (try (exfalso; omega))))) | refine zqa ?_ | refine zqb ?_ | (refine J _ ?_; clear J K))
   refine z4f (ih x.kids[i] (List.getElem_mem hi) (h4 _ (List.getElem_mem hi)) (true && (x.kids.take i).all z1u)) (by show 3 <= st.nx + 1; omega) (fun j hj => ?_) fun H2 hs2 hH2 => ?_
   ·have e : ∀ a b, z14 (z14 st.H st.nx a) st.nx b j = st.H j := fun a b => by unfold z14; rw [if_neg (by omega), if_neg (by omega)]
    refine (e _ _).trans ?_
    match j, hj with
    | 0, _ => exact qH0
    | 1, _ => exact qH1
    | 2, _ => exact qH2
   have k0 : H2 0 = some (.box 27 (z0b u)) := hs2 0 (by omega)
   have k1 : H2 1 = some (.box 4 [.bool (true && (x.kids.take i).all z1u && z1u x.kids[i])]) := hs2 1 (by omega)
   have k2 : H2 2 = some (.box 88 [.fn 56 [.ptr 1 0, .ptr 2 0]]) := hs2 2 (by omega)
   have kk : ∀ id, 3 <= id -> id < nx -> H2 id = H id := fun id a b => by
    have e := hH2 id a
    refine e.trans ?_
    refine Eq.trans ?_ (qp2 id a b)
    show z14 (z14 st.H st.nx _) st.nx _ id = _
    unfold z14; rw [if_neg (by omega), if_neg (by omega)]
   clear hH2
   (try (simp (disch := omega) only [go_sem])); repeat' (first | ((refine zqr fun K J => ?_); (simp (disch := omega) only [go_sem, Nat.reduceBEq, ↓reduceIte, q21])) | refine zqv ?_ | refine zqy ?_ | (refine J _ ?_; clear J K))
   (refine Exists.intro _ (And.intro ?_ ⟨i + 1, rfl, ?_⟩)); rotate_left; (simp (disch := omega) only [go_sem, Nat.reduceBEq, q1, q2, q19, q20, q21, true_and, Int.natCast_add, Int.natCast_one, k0, k1, k2]); rotate_left
   all_goals first | omega | exact ⟨by omega, kk⟩ | exact ⟨by rw [show ((x.kids.take i).all z1u && z1u x.kids[i]) = (x.kids.take (i + 1)).all z1u from by have h := zel (f := z1u) true hi; simpa using h], by omega, kk⟩
  ·have hie : i = x.kids.length := by omega
   subst hie
   rw [List.take_length] at qH1
   repeat' (first | ((refine zqh fun K J => ?_); (simp (disch := omega) only [go_sem, ↓reduceIte, q20, q21])) | ((refine zqd _ rfl (fun hc => ?_) (fun hc => ?_)) <;> (((try simp only [z09] at hc); (try (exfalso; omega))))) | refine zqc ?_ | refine zqz ?_ | refine zqp ?_ | refine zqu (by (simp (disch := omega) only [go_sem]); rfl) rfl ?_ | (refine J _ ?_; clear J K))
   refine ⟨rfl, fun j hj => ?_, fun id a b => qp2 id a b⟩
   match j, hj with
   | 0, _ => exact qH0
   | 1, _ => exact qH1
   | 2, _ => exact qH2
 ·have hcv : ∀ r : Bool, (true && ((decide (x.kind = 0) || decide (x.id ≠ Idv.zero)) && r)) = (false && r) := fun r => by rw [decide_eq_false hk, decide_eq_false (fun h => h hz)]; rfl
  rw [hcv]
  repeat' (first | ((refine zqh fun K J => ?_); (simp (disch := omega) only [go_sem, Nat.reduceBEq, ↓reduceIte, reduceCtorEq, Nat.reduceAdd, Nat.reduceLeDiff, Nat.reduceLT, e1, n1, m1, hk, hz])) | refine zqi ?_ | (refine J _ ?_; clear J K))
  (refine z4t (fun U st => ∃ (i : _), U = x.kids.length - i /\ st.t 1 = .ptr 1 0 /\ st.t 2 = .ptr 2 0 /\ st.t 19 = z18 x.kids /\ st.t 20 = .int .i64 x.kids.length /\ st.t 21 = .int .i64 i /\ st.H 0 = some (.box 27 (z0b u)) /\ st.H 1 = some (.box 4 [.bool (false && (x.kids.take i).all z1u)]) /\ st.H 2 = some (.box 88 [.fn 56 [.ptr 1 0, .ptr 2 0]]) /\ (i <= x.kids.length) /\ (nx < st.nx) /\ (∀ id, 3 <= id -> id < nx -> st.H id = H id)) ?_ ?_); rotate_left; (rintro U st ⟨i, rfl, q1, q2, q19, q20, q21, qH0, qH1, qH2, qp0, qp1, qp2⟩); rotate_left
  ·(refine ⟨_, 0, rfl, ?_⟩); (simp (disch := omega) only [go_sem, Nat.reduceBEq, true_and, Int.natCast_zero, z18, e0, e1, e2, n0, n1, n2])
   first
    | exact ⟨Nat.lt_succ_self _, fun id h1 h2 => by simp (disch := omega) only [z2d]⟩
    | exact ⟨rfl, Nat.lt_succ_self _, fun id h1 h2 => by simp (disch := omega) only [z2d]⟩
  by_cases hi : i < x.kids.length
  ·repeat' (first | ((first | refine zqh fun K J => ?_ | refine zqr fun K J => ?_); (simp (disch := omega) only [go_sem, Nat.reduceBEq, ↓reduceIte, reduceCtorEq, Nat.reduceAdd, Nat.reduceLeDiff, q2, q19, q20, q21, qH2, z18])) | ((refine zqd _ rfl (fun hc => ?_) (fun hc => ?_)) <;> (((try simp only [z09] at hc); (try (exfalso; omega))))) | refine zqa ?_ | refine zqb ?_ | (refine J _ ?_; clear J K))
   refine z4f (ih x.kids[i] (List.getElem_mem hi) (h4 _ (List.getElem_mem hi)) (false && (x.kids.take i).all z1u)) (by show 3 <= st.nx + 1; omega) (fun j hj => ?_) fun H2 hs2 hH2 => ?_
   ·have e : ∀ a b, z14 (z14 st.H st.nx a) st.nx b j = st.H j := fun a b => by unfold z14; rw [if_neg (by omega), if_neg (by omega)]
    refine (e _ _).trans ?_
    match j, hj with
    | 0, _ => exact qH0
    | 1, _ => exact qH1
    | 2, _ => exact qH2
   have k0 : H2 0 = some (.box 27 (z0b u)) := hs2 0 (by omega)
   have k1 : H2 1 = some (.box 4 [.bool (false && (x.kids.take i).all z1u && z1u x.kids[i])]) := hs2 1 (by omega)
   have k2 : H2 2 = some (.box 88 [.fn 56 [.ptr 1 0, .ptr 2 0]]) := hs2 2 (by omega)
   have kk : ∀ id, 3 <= id -> id < nx -> H2 id = H id := fun id a b => by
    have e := hH2 id a
    refine e.trans ?_
    refine Eq.trans ?_ (qp2 id a b)
    show z14 (z14 st.H st.nx _) st.nx _ id = _
    unfold z14; rw [if_neg (by omega), if_neg (by omega)]
   clear hH2
   (try (simp (disch := omega) only [go_sem])); repeat' (first | ((refine zqr fun K J => ?_); (simp (disch := omega) only [go_sem, Nat.reduceBEq, ↓reduceIte, q21])) | refine zqv ?_ | refine zqy ?_ | (refine J _ ?_; clear J K))
   (refine Exists.intro _ (And.intro ?_ ⟨i + 1, rfl, ?_⟩)); rotate_left; (simp (disch := omega) only [go_sem, Nat.reduceBEq, q1, q2, q19, q20, q21, true_and, Int.natCast_add, Int.natCast_one, k0, k1, k2]); rotate_left
   all_goals first | omega | exact ⟨by omega, kk⟩ | exact ⟨by rw [show ((x.kids.take i).all z1u && z1u x.kids[i]) = (x.kids.take (i + 1)).all z1u from by have h := zel (f := z1u) true hi; simpa using h], by omega, kk⟩
  ·have hie : i = x.kids.length := by omega
   subst hie
   rw [List.take_length] at qH1
   repeat' (first | ((refine zqh fun K J => ?_); (simp (disch := omega) only [go_sem, ↓reduceIte, q20, q21])) | ((refine zqd _ rfl (fun hc => ?_) (fun hc => ?_)) <;> (((try simp only [z09] at hc); (try (exfalso; omega))))) | refine zqc ?_ | refine zqz ?_ | refine zqp ?_ | refine zqu (by (simp (disch := omega) only [go_sem]); rfl) rfl ?_ | (refine J _ ?_; clear J K))
   refine ⟨rfl, fun j hj => ?_, fun id a b => qp2 id a b⟩
   match j, hj with
   | 0, _ => exact qH0
   | 1, _ => exact qH1
   | 2, _ => exact qH2
 ·have hcv : ∀ r : Bool, (true && ((decide (x.kind = 0) || decide (x.id ≠ Idv.zero)) && r)) = (true && r) := fun r => by rw [decide_eq_true (p := x.id ≠ Idv.zero) hz, Bool.or_true]; rfl
  rw [hcv]
  repeat' (first | ((refine zqh fun K J => ?_); (simp (disch := omega) only [go_sem, Nat.reduceBEq, ↓reduceIte, reduceCtorEq, Nat.reduceAdd, Nat.reduceLeDiff, Nat.reduceLT, e1, n1, m1, hk, hz])) | refine zqi ?_ | (refine J _ ?_; clear J K))
  (refine z4t (fun U st => ∃ (i : _), U = x.kids.length - i /\ st.t 1 = .ptr 1 0 /\ st.t 2 = .ptr 2 0 /\ st.t 19 = z18 x.kids /\ st.t 20 = .int .i64 x.kids.length /\ st.t 21 = .int .i64 i /\ st.H 0 = some (.box 27 (z0b u)) /\ st.H 1 = some (.box 4 [.bool (true && (x.kids.take i).all z1u)]) /\ st.H 2 = some (.box 88 [.fn 56 [.ptr 1 0, .ptr 2 0]]) /\ (i <= x.kids.length) /\ (nx < st.nx) /\ (∀ id, 3 <= id -> id < nx -> st.H id = H id)) ?_ ?_); rotate_left; (rintro U st ⟨i, rfl, q1, q2, q19, q20, q21, qH0, qH1, qH2, qp0, qp1, qp2⟩); rotate_left
  ·(refine ⟨_, 0, rfl, ?_⟩); (simp (disch := omega) only [go_sem, Nat.reduceBEq, true_and, Int.natCast_zero, z18, e0, e1, e2, n0, n1, n2])
   first
    | exact ⟨Nat.lt_succ_self _, fun id h1 h2 => by simp (disch := omega) only [z2d]⟩
    | exact ⟨rfl, Nat.lt_succ_self _, fun id h1 h2 => by simp (disch := omega) only [z2d]⟩
  by_cases hi : i < x.kids.length
  ·repeat' (first | ((first | refine zqh fun K J => ?_ | refine zqr fun K J => ?_); (simp (disch := omega) only [go_sem, Nat.reduceBEq, ↓reduceIte, reduceCtorEq, Nat.reduceAdd, Nat.reduceLeDiff, q2, q19, q20, q21, qH2, z18])) | ((refine zqd _ rfl (fun hc => ?_) (fun hc => ?_)) <;> (((try simp only [z09] at hc); (try (exfalso; omega))))) | refine zqa ?_ | refine zqb ?_ | (refine J _ ?_; clear J K))
   refine z4f (ih x.kids[i] (List.getElem_mem hi) (h4 _ (List.getElem_mem hi)) (true && (x.kids.take i).all z1u)) (by show 3 <= st.nx + 1; omega) (fun j hj => ?_) fun H2 hs2 hH2 => ?_
   ·have e : ∀ a b, z14 (z14 st.H st.nx a) st.nx b j = st.H j := fun a b => by unfold z14; rw [if_neg (by omega), if_neg (by omega)]
    refine (e _ _).trans ?_
    match j, hj with
    | 0, _ => exact qH0
    | 1, _ => exact qH1
    | 2, _ => exact qH2
   have k0 : H2 0 = some (.box 27 (z0b u)) := hs2 0 (by omega)
   have k1 : H2 1 = some (.box 4 [.bool (true && (x.kids.take i).all z1u && z1u x.kids[i])]) := hs2 1 (by omega)
   have k2 : H2 2 = some (.box 88 [.fn 56 [.ptr 1 0, .ptr 2 0]]) := hs2 2 (by omega)
   have kk : ∀ id, 3 <= id -> id < nx -> H2 id = H id := fun id a b => by
    have e := hH2 id a
    refine e.trans ?_
    refine Eq.trans ?_ (qp2 id a b)
    show z14 (z14 st.H st.nx _) st.nx _ id = _
    unfold z14; rw [if_neg (by omega), if_neg (by omega)]
   clear hH2
   (try (simp (disch := omega) only [go_sem])); repeat' (first | ((refine zqr fun K J => ?_); (simp (disch := omega) only [go_sem, Nat.reduceBEq, ↓reduceIte, q21])) | refine zqv ?_ | refine zqy ?_ | (refine J _ ?_; clear J K))
   (refine Exists.intro _ (And.intro ?_ ⟨i + 1, rfl, ?_⟩)); rotate_left; (simp (disch := omega) only [go_sem, Nat.reduceBEq, q1, q2, q19, q20, q21, true_and, Int.natCast_add, Int.natCast_one, k0, k1, k2]); rotate_left
   all_goals first | omega | exact ⟨by omega, kk⟩ | exact ⟨by rw [show ((x.kids.take i).all z1u && z1u x.kids[i]) = (x.kids.take (i + 1)).all z1u from by have h := zel (f := z1u) true hi; simpa using h], by omega, kk⟩
  ·have hie : i = x.kids.length := by omega
   subst hie
   rw [List.take_length] at qH1
   repeat' (first | ((refine zqh fun K J => ?_); (simp (disch := omega) only [go_sem, ↓reduceIte, q20, q21])) | ((refine zqd _ rfl (fun hc => ?_) (fun hc => ?_)) <;> (((try simp only [z09] at hc); (try (exfalso; omega))))) | refine zqc ?_ | refine zqz ?_ | refine zqp ?_ | refine zqu (by (simp (disch := omega) only [go_sem]); rfl) rfl ?_ | (refine J _ ?_; clear J K))
   refine ⟨rfl, fun j hj => ?_, fun id a b => qp2 id a b⟩
   match j, hj with
   | 0, _ => exact qH0
   | 1, _ => exact qH1
   | 2, _ => exact qH2
theorem zni (u : T) (hs : szB u = true) (hc : cntT u <= 1000000000) (V : depT u <= 1000000000) : PC Tryz.prog 36 [z0h u] (.bool (standsT u)) := by
 have h2 := zis u hs hc V
 rw [z97]
 refine z1c 1 (by simp only [pureD.pureL, z01, Bool.and_self]) rfl (z17 [] Tryz.func36 rfl (by decide +kernel) z0e (by decide +kernel) (by simp [Tryz.ntmps36]) ?_)
 show awp _ _ (Code.seq _ _) _ _
 repeat' (first | ((refine zqh fun K J => ?_); (simp (disch := omega) only [go_sem, Nat.reduceBEq, ↓reduceIte, Nat.reduceAdd, Nat.reduceLeDiff, Nat.reduceLT])) | (refine J _ ?_; clear J K))
 refine z4f (znh u u hs true) (Nat.le_refl _) (fun j hj => ?_) fun H2 hs2 hH2 => ?_
 ·match j, hj with
  | 0, _ => rfl
  | 1, _ => rfl
  | 2, _ => rfl
 have k0 : H2 0 = some (.box 27 (z0b u)) := hs2 0 (by omega)
 have k1 : H2 1 = some (.box 4 [.bool (true && z1u u)]) := hs2 1 (by omega)
 rw [Bool.true_and] at k1
 (try (simp (disch := omega) only [go_sem])); repeat' (first | ((first | refine zqh fun K J => ?_ | refine zqs (h2) ?_); (simp (disch := omega) only [go_sem, Nat.reduceBEq, ↓reduceIte, Nat.reduceAdd, k1])) | refine zqn ?_ | refine zqu (by (simp (disch := omega) only [go_sem]); rfl) rfl ?_ | (refine J _ ?_; clear J K) | (refine zqf (fun hb => ?_) (fun hb => ?_) <;> (have hb2 := hb; try simp only [z09] at hb2) <;> ((have F : (_ : Bool) = _ := hb2); (simp (disch := omega) only [go_sem, Nat.reduceBEq, ↓reduceIte, Nat.reduceAdd, Nat.reduceLeDiff, hb, k0]); clear hb F; (try (exfalso; omega)))))
 all_goals (refine z02 ?_; simp_all)
def zj3 (s : Ses) : D := .rptr (.agg (z1a s))
theorem z5c (s : Ses) : pureD (zj3 s) = true := by simp only [zj3, pureD, z7u]
def z5d (u : T) (o : Deed) (n : Nat) : D := .tup [z0h (if doE u o n = 0 then doT u o n else T.zero), .int .i64 (doE u o n)]
theorem z65 (u : T) (o : Deed) (n : Nat) : pureD (z5d u o n) = true := by simp only [z5d, pureD, pureD.pureL, z01, Bool.and_self]
theorem zav (s : Ses) : PC Tryz.prog 44 [zj3 s] (z0h s.draft) := by
 have hlt : s.dn.length < (trees s.base (s.dn ++ s.un)).length := by rw [z9d, List.length_append]; omega
 have hg := zvz s.base s.dn s.un hlt
 refine z1c 2 (by simp only [pureD.pureL, z5c, Bool.and_self]) (z01 _) (z17 [] Tryz.func44 rfl (by decide +kernel) z0e (by decide +kernel) (by simp [Tryz.ntmps44]) ?_)
 show awp _ _ (Code.seq _ _) _ _
 rw [show Tryz.f44.results.toList = [.cell 2 27] from rfl]
 repeat' (first | ((first | refine zqh fun K J => ?_ | refine zqe (by decide +kernel) fun K J => ?_); (simp (disch := omega) only [go_sem, Nat.reduceBEq, ↓reduceIte, reduceCtorEq, Nat.reduceAdd, Nat.reduceLeDiff, zj3, z1a, hg])) | refine zqn ?_ | refine zqu (by (simp (disch := omega) only [go_sem, Nat.reduceBEq, ↓reduceIte, Nat.reduceLeDiff]); rfl) rfl ?_ | (refine J _ ?_; clear J K))
 exact z0j (z01 _) (Le.refl _)
theorem zd9 {t : T} (h : szB t = true) : t.head.length <= 1000000 /\ t.words.length <= 1000000 := by
 obtain ⟨_, h1, _, h2, _⟩ := (z2w t).1 h
 exact ⟨h1, h2⟩
theorem zn4 (s : Ses) (hs : standsT s.draft = true) (o : Deed) (hk : o.kind = 0) (hw : o.words.length <= 1000000) (hws : ∀ w ∈ o.words, w.size <= 1000000) :
  PC Tryz.prog 63 [zj3 s, z5m o] (z5d s.draft o (z3e s.dn)) := by
 obtain ⟨z1, z2, z3⟩ := z27 hs
 have c0 := zav s
 have c1 := z6e s.draft (z7g _ z1) (by omega) o.id
 have hfs := zd9 (z9e o.id s.draft z1)
 have c2 := zoq (z06 o.id s.draft).1.words (by omega) o.words hw
 have hwd : z6n (z06 o.id s.draft).1.words o.words = z3w s.draft o := by unfold z3w; rw [hk]; rfl
 have c3 := zms s.draft z1 (by omega) (by omega) o.id (z3w s.draft o) (by rw [<- hwd, z8u]; exact hw) (fun w hm => by
  have := zev (n := 1000000) hws w (by rw [hwd]; exact hm)
  unfold maxLen; omega)
 rw [hwd] at c2
 have hr : z5d s.draft o (z3e s.dn) = .tup [z0h (if z4q s.draft o.id (z3w s.draft o) = 0 then z1y o.id (fun q => q.setWords (z3w s.draft o)) s.draft else T.zero), .int .i64 (z4q s.draft o.id (z3w s.draft o))] := by
  unfold z5d doE doT; rw [hk]; rfl
 have hpr := z65 s.draft o (z3e s.dn)
 rw [hr]
 refine z1c 3 (by simp only [pureD.pureL, z5c, z3q, Bool.and_self]) (by rw [<- hr]; exact hpr) (z17 [8000000, 3000012, 5000010, 5000013, 5000017, 3000019, 3000021, 3000023, 5000024, 5000025] Tryz.func63 rfl (by decide +kernel) z0e (by decide +kernel) (by simp [Tryz.ntmps63]) ?_)
 show awp _ _ (Code.seq _ _) _ _
 rw [show Tryz.f63.results.toList = [.cell 4 27, .tmp 5] from rfl]
 repeat' (first | ((first | refine zqh fun K J => ?_ | refine zqe (by decide +kernel) fun K J => ?_ | refine zqt (c0) ?_ | refine zqt (c1) ?_ | refine zqt (c2) ?_ | refine zqt (c3) ?_); (simp (disch := omega) only [go_sem, Nat.reduceBEq, Nat.reduceEqDiff, ↓reduceIte, reduceCtorEq, Nat.reduceAdd, Nat.reduceLeDiff, Nat.reduceLT, z5m, z0h])) | refine zqn ?_ | refine zqu (by (simp (disch := omega) only [go_sem, Nat.reduceBEq, ↓reduceIte, Nat.reduceLeDiff]); rfl) rfl ?_ | (refine J _ ?_; clear J K))
 rw [hr] at hpr
 exact z0j hpr (Le.refl _)
theorem zrt (s : Ses) (hs : standsT s.draft = true) (o : Deed) (hk : o.kind = 1) (hw : o.words.length <= 1000000) (hws : ∀ w ∈ o.words, w.size <= 1000000) :
  PC Tryz.prog 64 [zj3 s, z5m o] (z5d s.draft o (z3e s.dn)) := by
 obtain ⟨z1, z2, z3⟩ := z27 hs
 have c0 := zav s
 have c1 := z6e s.draft (z7g _ z1) (by omega) o.id
 have hfs := zd9 (z9e o.id s.draft z1)
 have c2 := zoq (z06 o.id s.draft).1.head (by omega) o.words hw
 have hwd : z6n (z06 o.id s.draft).1.head o.words = z3w s.draft o := by unfold z3w; rw [hk]; rfl
 have c3 := zim s.draft z1 (by omega) (by omega) o.id (z3w s.draft o) (by rw [<- hwd, z8u]; exact hw) (fun w hm => by
  have := zev (n := 1000000) hws w (by rw [hwd]; exact hm)
  unfold maxLen; omega)
 rw [hwd] at c2
 have hr : z5d s.draft o (z3e s.dn) = .tup [z0h (if z4q s.draft o.id (z3w s.draft o) = 0 then z1y o.id (fun q => q.setHead (z3w s.draft o)) s.draft else T.zero), .int .i64 (z4q s.draft o.id (z3w s.draft o))] := by
  unfold z5d doE doT; rw [hk]; rfl
 have hpr := z65 s.draft o (z3e s.dn)
 rw [hr]
 refine z1c 3 (by simp only [pureD.pureL, z5c, z3q, Bool.and_self]) (by rw [<- hr]; exact hpr) (z17 [8000000, 3000012, 5000010, 5000013, 5000017, 3000019, 3000021, 3000023, 5000024, 5000025] Tryz.func64 rfl (by decide +kernel) z0e (by decide +kernel) (by simp [Tryz.ntmps64]) ?_)
 show awp _ _ (Code.seq _ _) _ _
 rw [show Tryz.f64.results.toList = [.cell 4 27, .tmp 5] from rfl]
 repeat' (first | ((first | refine zqh fun K J => ?_ | refine zqe (by decide +kernel) fun K J => ?_ | refine zqt (c0) ?_ | refine zqt (c1) ?_ | refine zqt (c2) ?_ | refine zqt (c3) ?_); (simp (disch := omega) only [go_sem, Nat.reduceBEq, Nat.reduceEqDiff, ↓reduceIte, reduceCtorEq, Nat.reduceAdd, Nat.reduceLeDiff, Nat.reduceLT, z5m, z0h])) | refine zqn ?_ | refine zqu (by (simp (disch := omega) only [go_sem, Nat.reduceBEq, ↓reduceIte, Nat.reduceLeDiff]); rfl) rfl ?_ | (refine J _ ?_; clear J K))
 rw [hr] at hpr
 exact z0j hpr (Le.refl _)
theorem zn5 (s : Ses) (hs : standsT s.draft = true) (o : Deed) (hk : o.kind = 2) (hw : o.label.size <= 1000000) :
  PC Tryz.prog 65 [zj3 s, z5m o] (z5d s.draft o (z3e s.dn)) := by
 obtain ⟨z1, z2, z3⟩ := z27 hs
 have c0 := zav s
 have c1 := zpu s.draft z1 (by omega) (by omega) o.id o.label hw
 have hr : z5d s.draft o (z3e s.dn) = .tup [z0h (if zm2 s.draft o.id o.label = 0 then z1y o.id (fun q => q.setLabel o.label) s.draft else T.zero), .int .i64 (zm2 s.draft o.id o.label)] := by
  unfold z5d doE doT; rw [hk]; rfl
 have hpr := z65 s.draft o (z3e s.dn)
 rw [hr]
 refine z1c 3 (by simp only [pureD.pureL, z5c, z3q, Bool.and_self]) (by rw [<- hr]; exact hpr) (z17 [5000007, 3000009, 3000011, 5000012] Tryz.func65 rfl (by decide +kernel) z0e (by decide +kernel) (by simp [Tryz.ntmps65]) ?_)
 show awp _ _ (Code.seq _ _) _ _
 rw [show Tryz.f65.results.toList = [.cell 4 27, .tmp 5] from rfl]
 repeat' (first | ((first | refine zqh fun K J => ?_ | refine zqe (by decide +kernel) fun K J => ?_ | refine zqt (c0) ?_ | refine zqt (c1) ?_); (simp (disch := omega) only [go_sem, Nat.reduceBEq, Nat.reduceEqDiff, ↓reduceIte, reduceCtorEq, Nat.reduceAdd, Nat.reduceLeDiff, z5m, z0h])) | refine zqn ?_ | refine zqu (by (simp (disch := omega) only [go_sem, Nat.reduceBEq, ↓reduceIte, Nat.reduceLeDiff]); rfl) rfl ?_ | (refine J _ ?_; clear J K))
 rw [hr] at hpr
 exact z0j hpr (Le.refl _)
theorem zru (s : Ses) (hs : standsT s.draft = true) (o : Deed) (hk : o.kind = 5) :
  PC Tryz.prog 68 [zj3 s, z5m o] (z5d s.draft o (z3e s.dn)) := by
 obtain ⟨z1, z2, z3⟩ := z27 hs
 have c0 := zav s
 have c1 := pc_Move s.draft z1 (by omega) (by omega) o.id o.parent o.at_
 have hr : z5d s.draft o (z3e s.dn) = .tup [z0h (if z8o s.draft o.id o.parent o.at_ = 0 then z1y o.parent (z8q o.at_.toNat (z06 o.id s.draft).1) (z0w o.id s.draft) else T.zero), .int .i64 (z8o s.draft o.id o.parent o.at_)] := by
  unfold z5d doE doT; rw [hk]; rfl
 have hpr := z65 s.draft o (z3e s.dn)
 rw [hr]
 refine z1c 3 (by simp only [pureD.pureL, z5c, z3q, Bool.and_self]) (by rw [<- hr]; exact hpr) (z17 [5000007, 3000009, 3000011, 3000013, 5000014] Tryz.func68 rfl (by decide +kernel) z0e (by decide +kernel) (by simp [Tryz.ntmps68]) ?_)
 show awp _ _ (Code.seq _ _) _ _
 rw [show Tryz.f68.results.toList = [.cell 4 27, .tmp 5] from rfl]
 repeat' (first | ((first | refine zqh fun K J => ?_ | refine zqe (by decide +kernel) fun K J => ?_ | refine zqt (c0) ?_ | refine zqt (c1) ?_); (simp (disch := omega) only [go_sem, Nat.reduceBEq, Nat.reduceEqDiff, ↓reduceIte, reduceCtorEq, Nat.reduceAdd, Nat.reduceLeDiff, z5m, z0h])) | refine zqn ?_ | refine zqu (by (simp (disch := omega) only [go_sem, Nat.reduceBEq, ↓reduceIte, Nat.reduceLeDiff]); rfl) rfl ?_ | (refine J _ ?_; clear J K))
 rw [hr] at hpr
 exact z0j hpr (Le.refl _)
end
end Go.Proofs.YtlfohdkfpdkhhaaGreatDoor
namespace Go.Proofs.YtlfohdkfpdkhhaaGreatDoor.Abs
open Go.RowKit
variable {P : Program}
def hiH (n : Nat) (H : HM) : HM := fun id => if n <= id then H id else none
theorem hi_get {n id : Nat} {H : HM} (h : n <= id) : hiH n H id = H id := if_pos h
theorem zwv {s : RS} {w : World} (h : RH P s w) (H' : HM) (V : ∀ id, H' id = s.H id \/ H' id = none) : RH P { s with H := H' } w := by
 have hl : Later s { s with H := H' } := ⟨Nat.le_refl _, fun _ _ h => h, fun id _ => by
  rcases V id with e | e
  ·show objLe (s.H id) (H' id) _ _
   rw [e]; exact objLe.refl _ _
  ·show objLe (s.H id) (H' id) _ _
   rw [e]
   unfold objLe
   cases s.H id with
   | none => rfl
   | some o => cases o <;> exact .inl rfl⟩
 have ho : ∀ k, owned { s with H := H' } k -> owned s k := by
  rintro k ⟨id, hid, hH, hb⟩
  rcases V id with e | e
  ·exact ⟨id, hid, by rw [<- e]; exact hH, hb⟩
  ·exact (hH e).elim
 refine ⟨fun a u hm => ⟨(h.mem a u hm).1, fun hk => (h.mem a u hm).2 (ho _ hk)⟩, fun id o hido => ?_, fun i j hi hj hij hb => ?_, fun g => rel.later hl _ _ (h.glob g)⟩
 ·have hido : H' id = some o := hido
  rcases V id with e | e
  ·rw [e] at hido
   obtain ⟨h1, h2⟩ := h.obj id o hido
   exact ⟨h1, h2.mono hl fun b _ => rfl⟩
  ·rw [e] at hido; cases hido
 ·have hi' : s.H i ≠ none := by
   rcases V i with e | e
   ·rw [<- e]; exact hi
   ·exact (hi e).elim
  have hj' : s.H j ≠ none := by
   rcases V j with e | e
   ·rw [<- e]; exact hj
   ·exact (hj e).elim
  exact h.apart i j hi' hj' hij hb
noncomputable def finS (s : RS) (w : World) (n : Nat) : RS :=
 {m := (RS.shut { s with H := hiH n s.H } w).m, κ := s.κ, H := cutH n s.H, nx := n }
theorem AC_fin {f : FuncId} {ds : List D} {H : HM} {nx k : Nat} {r : D} {KK : HM -> Prop} (hr : pureD r = true) (h : AC P f ds H nx fun r' H' _ => (∃ d, z2p P (hiH nx H') k r' = some d /\ Le d r) /\ KK H')
  (hk : ∀ H', KK H' -> ∀ id o, id < nx -> H' id = some o -> H id = some o \/ lowO nx o = true) :
  AC P f ds H nx fun r' H2 nx2 => r' = r /\ nx2 = nx /\ ∃ H', KK H' /\ H2 = cutH nx H' := by
 refine ⟨h.1, fun s w vs h1 h2 h3 h4 => (h.2 s w vs h1 h2 h3 h4).mono fun e w' ⟨v, r', s', he, ⟨⟨d, V, hle⟩, J⟩, hstep, hRH, hrel⟩ => ?_⟩
 subst h1; subst h2
 have hlow := hk _ J
 let s1 : RS := { s' with H := hiH s.nx s'.H }
 have hl1 : Later s' s1 := ⟨Nat.le_refl _, fun _ _ h => h, fun id _ => by
  show objLe (s'.H id) (hiH s.nx s'.H id) _ _
  unfold hiH
  split
  ·exact objLe.refl _ _
  ·unfold objLe
   cases s'.H id with
   | none => rfl
   | some o => cases o <;> exact .inl rfl⟩
 have hRH1 : RH P s1 w' := zwv hRH _ fun id => by
  unfold hiH; split
  ·exact .inl rfl
  ·exact .inr rfl
 obtain ⟨hst1, hRH2⟩ := z9z hRH1
 have hrel1 : rel s1 r' v := rel.later hl1 _ _ hrel
 have hd2 : rel (s1.shut w') d v := zcw hRH1 k r' v d hrel1 V
 have hr2 : rel (s1.shut w') r v := hle _ _ hd2
 let s2 : RS := finS s' w' s.nx
 have hm2 : ∀ a u, s'.m a = some u -> s2.m a = some u := fun a u hm => hst1.mem a u hm
 have hH : ∀ id, id < s.nx -> s2.H id = s'.H id /\ s2.κ id = s'.κ id := fun id hid => ⟨if_pos hid, rfl⟩
 have hown : ∀ k, owned s2 k -> ∃ id, id < s.nx /\ s'.H id ≠ none /\ blockOf (s'.κ id) = some k := fun k ⟨id, hid, h5, h6⟩ => by
  have hid : id < s.nx := hid
  rw [(hH id hid).1] at h5
  exact ⟨id, hid, h5, h6⟩
 have hown' : ∀ k, owned s2 k -> owned s' k := fun k hk2 => by
  obtain ⟨id, hid, h5, h6⟩ := hown k hk2
  exact ⟨id, Nat.lt_of_lt_of_le hid hstep.nx, h5, h6⟩
 -- memory: what was read, and the objects of the callee's own
 have hmem : ∀ a u, s2.m a = some u -> (s'.m a = some u) \/ (w'.cell? a = some u /\ ∃ id, s.nx <= id /\ s'.H id ≠ none /\ blockOf (s'.κ id) = some a.block) := by
  intro a u hu
  have hu : (s1.shut w').m a = some u := hu
  simp only [RS.shut] at hu
  split at hu
  ·rename_i ho
   obtain ⟨id, hid, h5, h6⟩ := ho
   have h5 : hiH s.nx s'.H id ≠ none := h5
   unfold hiH at h5
   split at h5
   ·rename_i hge
    exact .inr ⟨hu, id, hge, h5, h6⟩
   ·exact (h5 rfl).elim
  ·exact .inl hu
 have hcut : ∀ (d : D) (v : Value), lowD s.nx d = true -> rel s' d v -> rel s2 d v := zi2 (s := s') (s' := s2) hm2 (Nat.le_refl _) hH
 refine ⟨v, r, s2, he, ⟨rfl, rfl, s'.H, J, rfl⟩, ?_, ?_, z1w (s := s1.shut w') (s' := s2) (fun _ _ h => h) _ _ hr hr2⟩
 ·refine ⟨hstep.os, hstep.tape, hstep.output, hstep.size, Nat.le_refl _, fun a u hm => hm2 a u (hstep.mem a u hm), fun a u hu => ?_, fun id hid => by rw [(hH id hid).1]; exact hstep.objs id hid, hstep.keep, fun k hk' => hstep.own k (hown' k hk')⟩
  rcases hmem a u hu with h5 | ⟨_, id, hge, h6, h7⟩
  ·exact hstep.new a u h5
  ·rcases hstep.own a.block ⟨id, hRH.fresh h6, h6, h7⟩ with h8 | h8
   ·exact .inr (.inr h8)
   ·exact .inr (.inl h8)
 ·refine ⟨fun a u hu => ?_, fun id o ho => ?_, fun i j hi hj hij hb => ?_, fun g => ?_⟩
  ·rcases hmem a u hu with h5 | ⟨h5, id, hge, h6, h7⟩
   ·exact ⟨(hRH.mem a u h5).1, fun ho => (hRH.mem a u h5).2 (hown' _ ho)⟩
   ·refine ⟨h5, fun ho => ?_⟩
    obtain ⟨j, hj, h8, h9⟩ := hown _ ho
    exact hRH.apart j id h8 h6 (by omega) (by rw [h9]; simp) (by rw [h9, h7])
  ·have hid : id < s.nx := by
    rcases Nat.lt_or_ge id s.nx with h9 | h9
    ·exact h9
    ·have : s2.H id = none := if_neg (by omega)
     rw [this] at ho; cases ho
   rw [(hH id hid).1] at ho
   refine ⟨hid, zjn (s := s') (s' := s2) (n := s.nx) hm2 (Nat.le_refl _) hH ?_ (hRH.obj id o ho).2⟩
   rcases hlow id o hid ho with h9 | h9
   ·exact zjm (s := s) (h3.obj id o h9).2
   ·exact h9
  ·have lt : ∀ i, s2.H i ≠ none -> i < s.nx /\ s'.H i ≠ none := fun i hi => by
    rcases Nat.lt_or_ge i s.nx with h9 | h9
    ·exact ⟨h9, by rw [<- (hH i h9).1]; exact hi⟩
    ·exact (hi (if_neg (by omega))).elim
   exact hRH.apart i j (lt i hi).2 (lt j hj).2 hij hb
  ·exact hcut _ _ (zb3 _ _ (z4x g)) (hRH.glob g)
theorem cut_upd {s : RS} {w : World} (hRH : RH P s w) {H' : HM} {i : Nat} {o' : HObj} (hi : i < s.nx) (hu : H' i = some o') (hk : ∀ id, id < s.nx -> id ≠ i -> H' id = s.H id) : cutH s.nx H' = z14 s.H i (some o') := by
 funext id
 unfold cutH z14
 by_cases e : id = i
 ·subst e; rw [if_pos hi, if_pos rfl]; exact hu
 ·rw [if_neg e]
  split
  ·rename_i hlt; exact hk id hlt e
  ·rename_i hlt
   cases hH : s.H id with
   | none => rfl
   | some o => have := (hRH.obj id o hH).1; omega
theorem zoy {f : FuncId} {ds : List D} {k i : Nat} {r : D} {o o' : HObj} (hr : pureD r = true) (ho : ∀ n, i < n -> lowO n o' = true)
  (h : ∀ H nx, i < nx -> H i = some o -> AC P f ds H nx fun r' H' _ => (∃ d, z2p P (hiH nx H') k r' = some d /\ Le d r) /\ (H' i = some o' /\ ∀ id, id < nx -> id ≠ i -> H' id = H id)) : TC P f ds i o o' r := by
 intro H nx hi hH
 have h1 := AC_fin hr (h H nx hi hH) (fun H' ⟨hu, hk⟩ id o1 hid ho2 => by
  by_cases e : id = i
  ·subst e; rw [hu] at ho2; cases ho2; exact .inr (ho _ hi)
  ·exact .inl (by rw [<- hk id hid e]; exact ho2))
 refine ⟨h1.1, fun s w vs e1 e2 e3 e4 => (h1.2 s w vs e1 e2 e3 e4).mono fun e w' ⟨v, r1, s1, he, ⟨hr', hnx, H', ⟨hu, hk⟩, hcut⟩, hstep, hRH, hrel⟩ => ⟨v, r1, s1, he, ⟨hr', ?_, hnx⟩, hstep, hRH, hrel⟩⟩
 subst e1; subst e2
 rw [hcut]; exact cut_upd e3 hi hu hk
theorem zzz {nx : Nat} (h : 3 < nx + 1) : (nx == nx + 1) = false /\ (nx == nx + 2) = false /\ (nx == nx + 3) = false /\ (nx + 1 == nx) = false /\ (nx + 2 == nx) = false /\ (nx + 3 == nx) = false /\ (nx + 1 == nx + 2) = false /\ (nx + 2 == nx + 1) = false /\ (nx + 1 == nx + 3) = false /\ (nx + 3 == nx + 1) = false /\ (nx + 2 == nx + 3) = false /\ (nx + 3 == nx + 2) = false /\
  (2 == nx) = false /\ (nx == 2) = false /\ (1 == nx) = false /\ (nx == 1) = false /\ (0 == nx) = false /\ (nx == 0) = false := by
 have key : ∀ a b : Nat, ¬ a = b -> (a == b) = false := fun a b h => by simpa using h
 exact ⟨key _ _ (by omega), key _ _ (by omega), key _ _ (by omega), key _ _ (by omega), key _ _ (by omega), key _ _ (by omega), key _ _ (by omega), key _ _ (by omega), key _ _ (by omega), key _ _ (by omega), key _ _ (by omega), key _ _ (by omega), key _ _ (by omega), key _ _ (by omega), key _ _ (by omega), key _ _ (by omega), key _ _ (by omega), key _ _ (by omega)⟩
end Go.Proofs.YtlfohdkfpdkhhaaGreatDoor.Abs
namespace Go.Proofs.YtlfohdkfpdkhhaaGreatDoor
section
open Abs Facts Tr
attribute [local irreducible] awp
set_option maxRecDepth 100000
namespace Tr
def znd (t : T) (n i : Nat) : List T := (z2c ((t.kids.take i).map z2l) (n + 1)).1 ++ t.kids.drop i
def zdb (t : T) (n i : Nat) : Nat := (z2c ((t.kids.take i).map z2l) (n + 1)).2
theorem zj8 (t : T) (n i : Nat) (hi : i <= t.kids.length) : (z2c ((t.kids.take i).map z2l) (n + 1)).1.length = i := by
 rw [zcg, List.length_map, List.length_take]; omega
theorem z000 (t : T) (n i : Nat) (hi : i <= t.kids.length) : (znd t n i).length = t.kids.length := by
 unfold znd
 rw [List.length_append, zj8 t n i hi, List.length_drop]; omega
theorem z001 (t : T) (n i : Nat) (hi : i < t.kids.length) (h : i < (znd t n i).length) : (znd t n i)[i] = t.kids[i] := by
 have hp := zj8 t n i (by omega)
 have key : ∀ (a b : List T) (hb : i < (a ++ b).length), a.length = i -> (h0 : 0 < b.length) -> (a ++ b)[i] = b[0] := by
  intro a b hb ha h0
  subst ha
  rw [List.getElem_append_right (Nat.le_refl _)]; simp
 have h' : i < ((z2c ((t.kids.take i).map z2l) (n + 1)).1 ++ t.kids.drop i).length := h
 show ((z2c ((t.kids.take i).map z2l) (n + 1)).1 ++ t.kids.drop i)[i] = _
 refine (key _ _ h' hp (by rw [List.length_drop]; omega)).trans ?_
 rw [List.getElem_drop]; simp
theorem zhr (t : T) (n i : Nat) (hi : i < t.kids.length) : z2c ((t.kids.take (i + 1)).map z2l) (n + 1) = ((z2c ((t.kids.take i).map z2l) (n + 1)).1 ++ [(z2l t.kids[i] (zdb t n i)).1], (z2l t.kids[i] (zdb t n i)).2) := by
 rw [List.take_succ_eq_append_getElem hi, List.map_append, List.map_cons, List.map_nil, zlr]; rfl
theorem zww (t : T) (n i : Nat) (hi : i < t.kids.length) : (znd t n i).set i (z2l t.kids[i] (zdb t n i)).1 = znd t n (i + 1) := by
 have hp := zj8 t n i (by omega)
 unfold znd
 rw [zhr t n i hi]
 simp only
 rw [List.set_append_right _ _ (by omega), hp, Nat.sub_self, List.drop_eq_getElem_cons hi, List.set_cons_zero, List.append_assoc]; rfl
theorem zhs (t : T) (n i : Nat) (hi : i < t.kids.length) : zdb t n (i + 1) = (z2l t.kids[i] (zdb t n i)).2 := by
 unfold zdb; rw [zhr t n i hi]; rfl
theorem z002 {t : T} (hs : szB t = true) (n : Nat) : ∀ i, i <= t.kids.length -> zdb t n i = n + 1 + ((t.kids.take i).map cntT).sum := by
 intro i
 induction i with
 | zero => intro _; rfl
 | succ i ih =>
  intro hi
  rw [zhs t n i (by omega), (zgr _ ((zd2 hs).2 _ (List.getElem_mem _)) _).2.2.2, ih (by omega), List.take_succ_eq_append_getElem (by omega), List.map_append, List.sum_append]
  simp; omega
theorem z003 {t : T} (hs : szB t = true) (n : Nat) {i : Nat} (hi : i < t.kids.length) : zdb t n i + cntT t.kids[i] <= n + cntT t := by
 rw [z002 hs n i (by omega)]
 have hct := z72 t
 rw [zeb] at hct
 have h : t.kids = t.kids.take i ++ t.kids[i] :: t.kids.drop (i + 1) := by rw [List.getElem_cons_drop, List.take_append_drop]
 have h2 : (t.kids.map cntT).sum = ((t.kids.take i).map cntT).sum + (cntT t.kids[i] + ((t.kids.drop (i + 1)).map cntT).sum) := by
  conv => lhs; rw [h]
  rw [List.map_append, List.sum_append, List.map_cons, List.sum_cons]
 omega
def z9l (t : T) (n c : Nat) : List D := [.int .i64 0, .int .i64 0, .int .i64 (n : Nat), .int .i64 t.kind, .str t.label, z0q t.head, z0q t.words, .osl c t.kids.length]
end Tr
theorem z004 : ∀ t : T, szB t = true -> ∀ n : Nat, n + cntT t <= 1000000000 ->
  TC Tryz.prog 88 [z0h t, .ptr 2 0] 2 (.box 3 [.int .i64 (n : Nat)]) (.box 3 [.int .i64 ((z2l t n).2 : Nat)]) (z0h (z2l t n).1) := by
 refine z5p fun t ih hs n hn => ?_
 obtain ⟨h0, h1, g1, h2, g2, h3, h4⟩ := (z2w t).1 hs
 have c3 := z7l t.kids h3
 have hcp := zic t
 have hnt := znp t n
 have hall : znd t n t.kids.length = (z2c (t.kids.map z2l) (n + 1)).1 := by unfold znd; rw [List.take_length, List.drop_length, List.append_nil]
 have hnall : zdb t n t.kids.length = (z2c (t.kids.map z2l) (n + 1)).2 := by unfold zdb; rw [List.take_length]
 refine zoy (k := 3) (z01 _) (fun m hm => rfl) fun H nx hlo hH => (z17 [8000003, 4000034, 9000030, 9000032, 9000035, 600034, 900002] Tryz.func88 rfl (by decide +kernel) z0e (by decide +kernel) (by simp [Tryz.ntmps88]) ?_)
 show awp _ _ (Code.seq _ _) _ _
 rw [show Tryz.f88.results.toList = [.cell 4 27] from rfl]
 rw [show z0h t = .agg _ from by rw [z0h, z0s]]
 have hnb := zzz (nx := nx) (by omega)
 repeat' (first | refine zqj ?_ | ((first | refine zqh fun K J => ?_ | refine z5s (c3) ?_); (simp (disch := omega) only [go_sem, Nat.reduceBEq, Nat.reduceBeqDiff, ↓reduceIte, reduceCtorEq, Nat.reduceAdd, Nat.reduceLeDiff, Nat.reduceLT, zgi, List.set_cons_succ, List.set_cons_zero, hH, hnb])) | refine zqa ?_ | (refine J _ ?_; clear J K))
 (refine z4t (fun U st => ∃ (i : _), U = t.kids.length - i /\ st.t 1 = .ptr 2 0 /\ st.t 2 = .ptr nx 0 /\ st.t 4 = .ptr (nx + 1) 0 /\ st.t 22 = .osl (nx + 2) t.kids.length /\ st.t 23 = .int .i64 t.kids.length /\ st.t 24 = .int .i64 i /\ st.H 2 = some (.box 3 [.int .i64 (zdb t n i : Nat)]) /\ st.H (nx) = some (.box 27 (z9l t n (nx + 2))) /\ st.H (nx + 1) = some (.box 27 z95) /\ st.H (nx + 2) = some (.row 27 t.kids.length ((znd t n i).flatMap z0b)) /\ (i <= t.kids.length) /\ (nx + 3 <= st.nx) /\ (∀ id, id < nx -> id ≠ 2 -> st.H id = H id)) ?_ ?_); rotate_left; (rintro U st ⟨i, rfl, q1, q2, q4, q22, q23, q24, qH2, qHnx, qHnx1, qHnx2, qp0, qp1, qp2⟩); rotate_left
 ·(refine ⟨_, 0, rfl, ?_⟩); (simp (disch := omega) only [go_sem, Nat.reduceBEq, Nat.reduceBeqDiff, Nat.reduceLeDiff, true_and, Int.natCast_zero, z9l, z95, hnb])
  exact ⟨rfl, rfl, Nat.le_refl _, fun id a b => by simp (disch := omega) only [z2d]⟩
 by_cases hi : i < t.kids.length
 ·have hrl := z000 t n i (by omega)
  have hri : i < (znd t n i).length := by omega
  have hle := z003 hs n hi
  have hin := ih t.kids[i] (List.getElem_mem hi) (h4 _ (List.getElem_mem hi)) (zdb t n i) (by omega)
  have hld : (((znd t n i).flatMap z0b).drop (i * 8)).take 8 = z0b t.kids[i] := by rw [zlk z0f hri, z001 t n i hi hri]
  have hst : z1e ((znd t n i).flatMap z0b) (i * 8) (z0b (z2l t.kids[i] (zdb t n i)).1) = (znd t n (i + 1)).flatMap z0b := by rw [z9n z0f hri, zww t n i hi]
  have hln : ((znd t n i).flatMap z0b).length = t.kids.length * 8 := by rw [z55 z0f, hrl]
  have b1 : 3 <= nx := by omega
  have b2 : 3 <= nx + 2 := by omega
  have b3 : 3 <= st.nx := by omega
  repeat' (first | ((first | refine zqh fun K J => ?_ | refine zqr fun K J => ?_ | refine zqq (by decide +kernel) fun K J => ?_ | ((refine z6u (hin) ?_ rfl rfl rfl (by decide) ?_ ?_); (focus ((simp (disch := omega) only [go_sem, qH2]); done)); (focus (((simp (disch := omega) only [go_sem, ↓reduceIte, Nat.reduceLeDiff]); omega))))); (simp (disch := omega) only [go_sem, Nat.reduceBEq, Nat.reduceBeqDiff, Nat.reduceEqDiff, ↓reduceIte, reduceCtorEq, Nat.reduceAdd, Nat.reduceLeDiff, q1, q2, q22, q23, q24, qHnx, qHnx2, hld, hst, hln, z9l, z0h, hnb, b1, b2, b3])) | ((refine zqd _ rfl (fun hc => ?_) (fun hc => ?_)) <;> (((try simp only [z09] at hc); (try (exfalso; omega))))) | refine zqa ?_ | refine zqb ?_ | refine zqv ?_ | refine zqy ?_ | (refine J _ ?_; clear J K))
  (refine Exists.intro _ (And.intro ?_ ⟨i + 1, rfl, ?_⟩)); rotate_left; (simp (disch := omega) only [go_sem, Nat.reduceBEq, Nat.reduceBeqDiff, Nat.reduceLeDiff, q1, q2, q4, q22, q23, q24, qH2, qHnx, qHnx1, qHnx2, true_and, Int.natCast_add, Int.natCast_one, hnb, zhs t n i hi, z9l, z95]); rotate_left
  ·omega
  ·refine ⟨by omega, by omega, fun id hid hne => ?_⟩
   simp (disch := omega) only [z2d]
   exact qp2 id hid hne
 ·have hie : i = t.kids.length := by omega
  subst hie
  rw [hall] at qHnx2
  rw [hnall] at qH2
  repeat' (first | ((refine zqh fun K J => ?_); (simp (disch := omega) only [go_sem, Nat.reduceBEq, ↓reduceIte, Nat.reduceAdd, Nat.reduceLeDiff, q2, q4, q23, q24, qHnx, qHnx1, z9l, z95, List.set_cons_succ, List.set_cons_zero])) | ((refine zqd _ rfl (fun hc => ?_) (fun hc => ?_)) <;> (((try simp only [z09] at hc); (try (exfalso; omega))))) | refine zqc ?_ | refine zqn ?_ | refine zqv ?_ | refine zqz ?_ | refine zqp ?_ | refine zqu (by (simp (disch := omega) only [go_sem, Nat.reduceBEq, ↓reduceIte, Nat.reduceAdd, Nat.reduceLeDiff, q4, qHnx1, z95]); rfl) rfl ?_ | (refine J _ ?_; clear J K))
  rw [show (z2l t n).1 = (t.setId ⟨0, 0, (n : Int)⟩).setKids (z2c (t.kids.map z2l) (n + 1)).1 from by rw [hnt], show (z2l t n).2 = (z2c (t.kids.map z2l) (n + 1)).2 from by rw [hnt]]
  refine ⟨⟨_, z58 (k := 2) ?_ (z00 (z03 1 rfl) (z00 (z03 1 rfl) (z00 (z03 1 rfl) (z00 (z03 1 rfl) (z00 (z03 1 rfl) (z00 (z03 1 (z0k _)) (z00 (z03 1 (z0k _)) (z00 (z1q (f := z0b) (l := (z2c (t.kids.map z2l) (n + 1)).1) 0 (by rw [zcg, List.length_map]) ?_ z0i z31 z0f z05) z08)))))))), ?_⟩, ?_, ?_⟩
  ·simp [pureD.pureL, pureD]
  ·rw [hi_get (by omega)]
   (simp (disch := omega) only [go_sem, qHnx2, hnb])
  ·rw [z0h, z0s]
   exact Le.refl _
  ·(simp (disch := omega) only [go_sem, Nat.reduceBeqDiff, qH2, hnb])
  ·intro id hid hne
   (simp (disch := omega) only [go_sem])
   simp (disch := omega) only [z2d]
   exact qp2 id hid hne
namespace Tr
theorem zf8 (l : List Deed) {i : Nat} (hi : i < l.length) : z3e (l.take (i + 1)) = z3e (l.take i) + zs4 l[i] := by
 rw [List.take_succ_eq_append_getElem hi, zvv]
theorem ztw (l : List Deed) : ∀ i, z3e (l.take i) <= z3e l := by
 intro i
 have h : z3e l = z3e (l.take i) + z3e (l.drop i) := by
  unfold z3e
  conv => lhs; rw [<- List.take_append_drop i l]
  rw [List.map_append, List.sum_append]
 omega
end Tr
theorem ztx (s : Ses) (hs : standsT s.draft = true) (o : Deed) (hk : o.kind = 3) (hu : szB o.unit = true) (hc : cntT o.unit <= 1000000) (V : depT o.unit <= 1000000)
  (hdn : ∀ d ∈ s.dn, d.kind = 3 -> szB d.unit = true /\ cntT d.unit <= 1000000) (hn : z3e s.dn <= 100000000) (hl : s.dn.length <= 1000000) :
  PC Tryz.prog 66 [zj3 s, z5m o] (z5d s.draft o (z3e s.dn)) := by
 obtain ⟨z1, z2, z3⟩ := z27 hs
 have c0 := zav s
 have c1 := zvt o.unit hu (by omega) (by omega)
 have hfa := zgr o.unit hu (z3e s.dn + 1)
 have c2 := z004 o.unit hu (z3e s.dn + 1) (by omega)
 have c3 := zv5 s.draft (z2l o.unit (z3e s.dn + 1)).1 z1 hfa.1 (by omega) (by omega) (by omega) (by omega) o.parent o.at_
 have hr : z5d s.draft o (z3e s.dn) = .tup [z0h (if (if zsy o.unit = true then z47 s.draft o.parent o.at_ (z2l o.unit (z3e s.dn + 1)).1 else 1) = 0 then z1y o.parent (z8q o.at_.toNat (z2l o.unit (z3e s.dn + 1)).1) s.draft else T.zero), .int .i64 (if zsy o.unit = true then z47 s.draft o.parent o.at_ (z2l o.unit (z3e s.dn + 1)).1 else 1)] := by
  unfold z5d doE doT; rw [hk]; rfl
 have hpr := z65 s.draft o (z3e s.dn)
 simp only [ne_eq, ite_not] at c3
 rw [hr]
 refine z1c 3 (by simp only [pureD.pureL, z5c, z3q, Bool.and_self]) (by rw [<- hr]; exact hpr) (z17 [8000003, 5000034, 5000038, 4000045, 5000046, 600040, 900000, 600042, 900000, 600044, 900000, 600045, 900002] Tryz.func66 rfl (by decide +kernel) z0e (by decide +kernel) (by simp [Tryz.ntmps66]) ?_)
 show awp _ _ (Code.seq _ _) _ _
 rw [show Tryz.f66.results.toList = [.cell 4 27, .tmp 5] from rfl]
 have hct : (s.dn ++ s.un).take s.dn.length = s.dn := List.take_left' rfl
 by_cases hb : zsy o.unit = true
 ·rw [if_pos hb]
  rw [show (z5o o.unit && decide (o.unit = zaf o.unit)) = true from hb] at c1
  repeat' (first | refine zqj ?_ | ((first | refine zqh fun K J => ?_ | refine zqe (by decide +kernel) fun K J => ?_ | refine zqs (c1) ?_); (simp (disch := omega) only [go_sem, Nat.reduceBEq, Nat.reduceEqDiff, ↓reduceIte, reduceCtorEq, Nat.reduceAdd, Nat.reduceLeDiff, Nat.reduceLT, z5m, zj3, z1a, z3f, List.length_append, List.length_map, <- List.map_take, hct])) | ((refine zqd _ rfl (fun hc => ?_) (fun hc => ?_)) <;> (first | (cases hc; done) | ((try simp only [] at hc); (try (exfalso; omega))))) | refine zqa ?_ | refine zqb ?_ | (refine J _ ?_; clear J K))
  (refine z4t (fun U st => ∃ (i : _), U = s.dn.length - i /\ st.t 0 = zj3 s /\ st.t 3 = .ptr 0 0 /\ st.t 4 = .ptr 1 0 /\ st.t 6 = .ptr 2 0 /\ st.t 22 = .rsl false 18 (s.dn.map z5m) /\ st.t 23 = .int .i64 s.dn.length /\ st.t 24 = .int .i64 i /\ st.H 0 = some (.box 32 (z1r o)) /\ st.H 1 = some (.box 27 z95) /\ st.H 2 = some (.box 3 [.int .i64 ((z3e (s.dn.take i) + 1 : Nat) : Int)]) /\ (i <= s.dn.length) /\ (3 <= st.nx)) ?_ ?_); rotate_left; (rintro U st ⟨i, rfl, q0, q3, q4, q6, q22, q23, q24, qH0, qH1, qH2, qp0, qp1⟩); rotate_left
  ·(refine ⟨_, 0, rfl, ?_⟩); (simp (disch := omega) only [go_sem, Nat.reduceBEq, Nat.reduceLeDiff, true_and, and_true, and_self, Int.natCast_add, Int.natCast_one, Int.natCast_zero, zj3, z1a, z3f, z95])
   rfl
  by_cases hi : i < s.dn.length
  ·have h1 := ztw s.dn i
   have h2 := ztw s.dn (i + 1)
   rw [zf8 s.dn hi] at h2
   have hg : s.dn[i] ∈ s.dn := List.getElem_mem hi
   by_cases h3 : s.dn[i].kind = 3
   ·obtain ⟨f1, f2⟩ := hdn _ hg h3
    have hinc : zs4 s.dn[i] = cntT s.dn[i].unit := if_pos h3
    rw [hinc] at h2
    have c4 := zeh s.dn[i].unit (z7h _ f1) (by omega)
    repeat' (first | ((first | refine zqh fun K J => ?_ | refine zqr fun K J => ?_ | refine zqq (by decide +kernel) fun K J => ?_ | refine zqt (c4) ?_); (simp (disch := omega) only [go_sem, Nat.reduceBEq, Nat.reduceEqDiff, ↓reduceIte, reduceCtorEq, Nat.reduceAdd, Nat.reduceLeDiff, Nat.reduceLT, q6, q22, q23, q24, qH2, h3, z5m, z16])) | ((first | refine zqd _ rfl (fun hc => ?_) (fun hc => ?_) | refine zqm _ rfl (fun hc => ?_) (fun hc => ?_)) <;> (first | (cases hc; done) | ((try simp only [z09] at hc); (try (exfalso; omega))))) | refine zqa ?_ | refine zqb ?_ | refine zqv ?_ | refine zqy ?_ | (refine J _ ?_; clear J K))
    (refine Exists.intro _ (And.intro ?_ ⟨i + 1, rfl, ?_⟩)); rotate_left; (simp (disch := omega) only [go_sem, Nat.reduceBEq, Nat.reduceLeDiff, q0, q3, q4, q6, q22, q23, q24, qH0, qH1, qH2, true_and, Int.natCast_add, Int.natCast_one, zf8 s.dn hi, hinc]); rotate_left
    ·omega
    ·exact ⟨by rw [show ((z3e (s.dn.take i) : Nat) : Int) + 1 + (cntT s.dn[i].unit : Nat) = (z3e (s.dn.take i) : Nat) + (cntT s.dn[i].unit : Nat) + 1 from by omega], by omega, by omega⟩
   ·have hinc : zs4 s.dn[i] = 0 := if_neg h3
    repeat' (first | ((first | refine zqh fun K J => ?_ | refine zqr fun K J => ?_); (simp (disch := omega) only [go_sem, Nat.reduceBEq, ↓reduceIte, reduceCtorEq, Nat.reduceAdd, Nat.reduceLeDiff, q22, q23, q24, h3, z5m, z16])) | ((first | refine zqd _ rfl (fun hc => ?_) (fun hc => ?_) | refine zqm _ rfl (fun hc => ?_) (fun hc => ?_)) <;> (first | (cases hc; done) | ((try simp only [z09] at hc); (try (exfalso; omega))))) | refine zqa ?_ | refine zqb ?_ | refine zqk ?_ | refine zqv ?_ | refine zqy ?_ | (refine J _ ?_; clear J K))
    (refine Exists.intro _ (And.intro ?_ ⟨i + 1, rfl, ?_⟩)); rotate_left; (simp (disch := omega) only [go_sem, Nat.reduceBEq, Nat.reduceLeDiff, q0, q3, q4, q6, q22, q23, q24, qH0, qH1, qH2, true_and, Int.natCast_add, Int.natCast_one, zf8 s.dn hi, hinc]); rotate_left
    all_goals first | omega | exact ⟨by omega, by omega⟩
  ·have hie : i = s.dn.length := by omega
   subst hie
   rw [List.take_length] at qH2
   repeat' (first | ((first | refine zqh fun K J => ?_ | refine zqe (by decide +kernel) fun K J => ?_ | refine zqt (c0) ?_ | ((refine z6u (c2) ?_ rfl rfl rfl (by decide) ?_ ?_); (focus ((simp (disch := omega) only [go_sem, qH2]); done)); (focus (((simp (disch := omega) only [go_sem, ↓reduceIte, Nat.reduceLeDiff]); omega)))) | refine zqt (c3) ?_); (simp (disch := omega) only [go_sem, Nat.reduceBEq, Nat.reduceEqDiff, ↓reduceIte, reduceCtorEq, Nat.reduceAdd, Nat.reduceLeDiff, q0, q3, q4, q6, q23, q24, qH0, qH1, z0h, z95])) | ((refine zqd _ rfl (fun hc => ?_) (fun hc => ?_)) <;> (((try simp only [z09] at hc); (try (exfalso; omega))))) | refine zqc ?_ | refine zqn ?_ | refine zqv ?_ | refine zqz ?_ | refine zqp ?_ | refine zqu (by (simp (disch := omega) only [go_sem, Nat.reduceBEq, ↓reduceIte, Nat.reduceLeDiff, q4, qH1, z95]); rfl) rfl ?_ | (refine J _ ?_; clear J K))
   rw [hr, if_pos hb] at hpr
   exact z0j hpr (Le.refl _)
 ·rw [if_neg hb, if_neg (show ¬ (1 : Int) = 0 by decide)]
  rw [if_neg hb, if_neg (show ¬ (1 : Int) = 0 by decide)] at hr
  rw [show (z5o o.unit && decide (o.unit = zaf o.unit)) = false from by simpa [zsy] using hb] at c1
  repeat' (first | refine zqj ?_ | ((first | refine zqh fun K J => ?_ | refine zqs (c1) ?_); (simp (disch := omega) only [go_sem, Nat.reduceBEq, ↓reduceIte, reduceCtorEq, Nat.reduceAdd, Nat.reduceLeDiff, z5m, zj3, z1a, z3f])) | ((refine zqd _ rfl (fun hc => ?_) (fun hc => ?_)) <;> (first | (cases hc; done) | ((try simp only [] at hc); (try (exfalso; omega))))) | refine zqg ?_ | refine zqu (by (simp (disch := omega) only [go_sem, Nat.reduceBEq, ↓reduceIte, Nat.reduceAdd, Nat.reduceLeDiff]); rfl) rfl ?_ | (refine J _ ?_; clear J K))
  exact z0j rfl (Le.tup ⟨z3c, Le.refl _, trivial⟩)
end
end Go.Proofs.YtlfohdkfpdkhhaaGreatDoor
namespace Go.Proofs.YtlfohdkfpdkhhaaGreatDoor.Abs
open Go.RowKit
variable {P : Program}
def thickD (c : Nat) : D -> Bool
 | .rsl _ sz els => els.isEmpty || (decide (c < sz) && thickL c els)
 | .agg ds => thickL c ds
 | .tup ds => thickL c ds
 | .int .. | .bool _ | .str _ | .nil | .nptr | .nfun | .nmp | .e0 | .any => true
 | _ => false
where thickL (c : Nat) : List D -> Bool
 | [] => true
 | d :: ds => thickD c d && thickL c ds
theorem zfn (a : Addr) (n : Nat) : (a.add n).block = a.block := by unfold Addr.add; split <;> rfl
theorem zvl (a : Addr) (n : Nat) : (a.add n).off = a.off + n := by
 unfold Addr.add; split
 ·rename_i h; subst h; rfl
 ·rfl
theorem zmt {m1 m : Addr -> Option Value} {b c sz : Nat} {a : Addr} {cs : List Value} (hm : ∀ a u, m1 a = some u -> (m a = some u \/ a.block = b) /\ (a.block = b -> a.off < c)) (hc : c < sz) (hl : cs.length = sz) (h : cellsAt m1 a cs) : cellsAt m a cs := by
 intro j u hj
 rcases (hm _ _ (h j u hj)).1 with g | g1
 ·exact g
 ·exfalso
  have hlast : cs[sz - 1]? = some (cs[sz - 1]'(by omega)) := List.getElem?_eq_getElem (by omega)
  have g2 := (hm _ _ (h (sz - 1) _ hlast)).2 (by rw [zfn] at g1 ⊢; exact g1)
  rw [zvl] at g2
  omega
mutual
theorem zku {s s' : RS} {b c : Nat} (hm : ∀ a u, s.m a = some u -> (s'.m a = some u \/ a.block = b) /\ (a.block = b -> a.off < c)) : ∀ (d : D) (v : Value), thickD c d = true -> rel s d v -> rel s' d v
 | .any, _, _, _ => by simp [rel]
 | .int k n, v, _, hr => by simpa [rel] using hr
 | .bool b, v, _, hr => by simpa [rel] using hr
 | .str x, v, _, hr => by simpa [rel] using hr
 | .nil, v, _, hr => by simpa [rel] using hr
 | .nptr, v, _, hr => by simpa [rel] using hr
 | .nfun, v, _, hr => by simpa [rel] using hr
 | .nmp, v, _, hr => by simpa [rel] using hr
 | .e0, v, _, hr => by simpa [rel] using hr
 | .agg ds, v, h, hr => by
  simp only [rel] at hr ⊢
  obtain ⟨vs, h1, h2, h3⟩ := hr
  exact ⟨vs, h1, za2 hm ds vs h h2, h3⟩
 | .tup ds, v, h, hr => by
  simp only [rel] at hr ⊢
  obtain ⟨vs, h1, h2⟩ := hr
  exact ⟨vs, h1, za2 hm ds vs h h2⟩
 | .rsl nn sz els, v, h, hr => by
  simp only [rel] at hr ⊢
  rcases hr with h1 | ⟨a, cap, vs, h1, h2, h3, h4, h5⟩
  ·exact .inl h1
  ·simp only [thickD, Bool.or_eq_true, Bool.and_eq_true, decide_eq_true_eq, List.isEmpty_iff] at h
   rcases h with rfl | ⟨hsz, h⟩
   ·simp only [relAll] at h4
    subst h4
    exact .inr ⟨a, cap, [], h1, h2, h3, z0y, fun i u hu => by simp at hu⟩
   ·exact .inr ⟨a, cap, vs, h1, h2, h3, za2 hm els vs h h4, fun i u hu => ⟨(h5 i u hu).1, zmt hm hsz (by simpa using (h5 i u hu).1) (h5 i u hu).2⟩⟩
 | .rptr _, _, h, _ => by cases h
 | .fn _ _, _, h, _ => by cases h
 | .osl _ _, _, h, _ => by cases h
 | .ptr _ _, _, h, _ => by cases h
 | .eptr _ _ _, _, h, _ => by cases h
 | .mp _, _, h, _ => by cases h
 | .fsl _ _, _, h, _ => by cases h
 | .it _, _, h, _ => by cases h
theorem za2 {s s' : RS} {b c : Nat} (hm : ∀ a u, s.m a = some u -> (s'.m a = some u \/ a.block = b) /\ (a.block = b -> a.off < c)) : ∀ (ds : List D) (vs : List Value), thickD.thickL c ds = true -> relAll s ds vs -> relAll s' ds vs
 | [], vs, _, hr => by simpa [relAll] using hr
 | d :: ds, vs, h, hr => by
  simp only [thickD.thickL, Bool.and_eq_true] at h
  simp only [relAll] at hr
  obtain ⟨v, r, rfl, h1, h2⟩ := hr
  exact z0m (zku hm d v h.1 h1) (za2 hm ds r h.2 h2)
end
theorem PC.lend {f : FuncId} {rest cs : List D} {r : D} {id e : Nat} {H : HM} {nx : Nat} (h : PC P f (.rptr (.agg cs) :: rest) r) (hH : H id = some (.box e cs)) (ht : thickD cs.length r = true) : RC P f (.ptr id 0 :: rest) H nx r := by
 refine ⟨h.2.2.1, fun s w vs hH' hnx hRH hr => ?_⟩
 subst hH'; subst hnx
 simp only [relAll] at hr
 obtain ⟨v, us, rfl, hv, hus⟩ := hr
 simp only [rel] at hv
 obtain ⟨hid, _, hlive⟩ := hv
 obtain ⟨b, hκ, rfl⟩ := hlive _ _ hH
 obtain ⟨b', ws, hκ', hheap, hws, hones⟩ := (hRH.obj id _ hH).2
 rw [hκ] at hκ'
 have hbb : b = b' := by injection hκ' with h1; injection h1 with h2; injection h2
 subst hbb
 have hown : owned s b := ⟨id, hid, by rw [hH]; simp, by rw [hκ]; rfl⟩
 have hcell : ∀ a u, w.cell? a = some u -> a.block = b -> a.off < cs.length := by
  intro a u hu hb
  unfold World.cell? at hu
  rw [hb, hheap] at hu
  simp only at hu
  split at hu
  ·cases hu
  ·have := (Array.getElem?_eq_some_iff.1 hu).1
   rw [<- z0a hws]; simpa using this
 let s1 : RS := { s with m := fun a => if a.block = b then w.cell? a else s.m a, H := noH, nx := 0 }
 have hsub : ∀ a u, s.m a = some u -> s1.m a = some u := fun a u hm => by
  have hne : a.block ≠ b := fun e => (hRH.mem a u hm).2 (e ▸ hown)
  show (if a.block = b then w.cell? a else s.m a) = some u
  rw [if_neg hne]; exact hm
 have hno : ∀ k, ¬ owned s1 k := by rintro k ⟨id, hid, _⟩; exact absurd hid (Nat.not_lt_zero _)
 have hRH1 : RH P s1 w := ⟨fun a u hm => ⟨by
   have hm : (if a.block = b then w.cell? a else s.m a) = some u := hm
   split at hm
   ·exact hm
   ·exact (hRH.mem a u hm).1, hno _⟩, fun id o ho => (by cases ho), fun i j hi => (hi rfl).elim, fun g => z1w (s := s) (s' := s1) hsub _ _ (z4x g) (hRH.glob g)⟩
 have hp := h.1
 simp only [pureD.pureL, pureD, Bool.and_eq_true] at hp
 have hr1 : relAll s1 (.rptr (.agg cs) :: rest) (.pointer (some ⟨b, 0, none⟩) :: us) := by
  refine z0m ?_ (z1d (s := s) (s' := s1) hsub rest us hp.2 hus)
  simp only [rel]
  refine ⟨⟨b, 0, none⟩, .agg ws.toArray, rfl, ⟨ws, rfl, z1d (s := s) (s' := s1) hsub cs ws hp.1 hws, hones⟩, fun j c hj => ?_⟩
  have hj : ws[j]? = some c := by simpa [Value.cells] using hj
  show (if _ = b then w.cell? _ else s.m _) = some c
  rw [zfn, if_pos rfl]
  unfold World.cell?
  rw [zfn, hheap]
  simp only
  rw [zvl]
  have hsp : ((⟨b, 0, none⟩ : Addr).add j).spot = none := by unfold Addr.add; split <;> rfl
  rw [hsp]
  simpa using hj
 refine (h.2.2.2 s1 w _ rfl rfl hRH1 hr1).mono fun e w' ⟨v, r', s3, he, hrr, hstep, hRH3, hrel⟩ => ?_
 subst hrr
 have hold : ∀ k, k < w.heap.size -> w'.heap[k]? = w.heap[k]? := fun k hk => hstep.keep k hk (hno k)
 have hgrew : Grew w w' := ⟨hstep.os, hstep.tape, hstep.output, hstep.size, hold⟩
 obtain ⟨g1, g2⟩ := z8e hRH hgrew
 have hbs : b < w.heap.size := (Array.getElem?_eq_some_iff.1 hheap).1
 refine ⟨v, r', s.grow w w', he, ⟨rfl, rfl, rfl⟩, g1, g2, ?_⟩
 refine zku (b := b) (c := cs.length) (fun a u hm3 => ⟨?_, fun hb => ?_⟩) r' v ht hrel
 ·by_cases hb : a.block = b
  ·exact .inr hb
  ·refine .inl ?_
   simp only [RS.grow]
   rcases hstep.new a u hm3 with h1 | h1 | h1
   ·have hlt := hRH1.mem_lt h1
    rw [if_pos hlt]
    have h1 : (if a.block = b then w.cell? a else s.m a) = some u := h1
    rw [if_neg hb] at h1; exact h1
   ·rw [if_neg (by omega)]; exact (hRH3.mem a u hm3).1
   ·exact (hno _ h1).elim
 ·refine hcell a u ?_ hb
  have h1 := (hRH3.mem a u hm3).1
  unfold World.cell? at h1 ⊢
  rw [hold a.block (by omega)] at h1
  exact h1
theorem z8c {st : St} {b : Nat} {e : TypeId} {cs cs' : List D} (hb : st.H b = some (.box e cs)) (hl : LeL cs cs') :
  SealTo P st { st with H := z14 st.H b (some (.box e cs')) } := by
 intro N s a w hf
 have hHb : s.H b = some (.box e cs) := by rw [hf.H]; exact hb
 obtain ⟨_, q2⟩ := hf.heap.obj b _ hHb
 obtain ⟨g3, g4⟩ := z9h (w' := w) hf.heap b _ (.box e cs') (s.κ b) hHb rfl rfl rfl (Nat.le_refl _) (fun _ _ _ => rfl) (.inr ⟨_, rfl, rfl⟩) (fun b hb => .inl hb) (fun hL => by
  obtain ⟨b', vs, u1, u2, u3, u4⟩ := q2
  exact ⟨b', vs, u1, u2, relAll.later hL _ _ (z6b hl u3), u4⟩)
 refine ⟨_, ⟨?_, ?_, hf.size, hf.defers, fun i => rel.later g3.later _ _ (hf.tmps i), g4⟩, g3⟩
 ·simp only [RS.set, hf.H]
 ·simp only [RS.set, hf.nx]
theorem zmu {k nx : Nat} (h : k < nx) : (nx == nx + 1) = false /\ (nx == nx + 2) = false /\ (nx == nx + 3) = false /\ (nx + 1 == nx) = false /\ (nx + 2 == nx) = false /\ (nx + 3 == nx) = false /\ (nx + 1 == nx + 2) = false /\ (nx + 2 == nx + 1) = false /\ (nx + 1 == nx + 3) = false /\ (nx + 3 == nx + 1) = false /\ (nx + 2 == nx + 3) = false /\ (nx + 3 == nx + 2) = false /\
  (k == nx) = false /\ (nx == k) = false /\ (k == nx + 1) = false /\ (nx + 1 == k) = false /\ (k == nx + 2) = false /\ (nx + 2 == k) = false /\ (k == nx + 3) = false /\ (nx + 3 == k) = false := by
 have key : ∀ a b : Nat, ¬ a = b -> (a == b) = false := fun a b h => by simpa using h
 exact ⟨key _ _ (by omega), key _ _ (by omega), key _ _ (by omega), key _ _ (by omega), key _ _ (by omega), key _ _ (by omega), key _ _ (by omega), key _ _ (by omega), key _ _ (by omega), key _ _ (by omega), key _ _ (by omega), key _ _ (by omega), key _ _ (by omega), key _ _ (by omega), key _ _ (by omega), key _ _ (by omega), key _ _ (by omega), key _ _ (by omega), key _ _ (by omega), key _ _ (by omega)⟩
def noBox : HObj -> Bool
 | .box .. => false
 | _ => true
theorem zr9 (st : St) {objs : List HObj} (hr : objs.all noBox = true) : z8p st (zpe st.H st.nx objs) (st.nx + objs.length) := by
 refine ⟨Nat.le_add_right _ _, fun id => ⟨fun hlt e cs h => ?_, fun hlt e cs h => ?_⟩⟩
 ·rw [zcj, if_neg (by omega)]; exact h
 ·rw [zcj] at h
  split at h
  ·obtain ⟨hl, he⟩ := List.getElem?_eq_some_iff.1 h
   have := List.all_eq_true.1 hr _ (List.getElem_mem hl)
   rw [he] at this; cases this
  ·exact ⟨by omega, h⟩
theorem z3u {own : List Nat} {objs : List HObj} {r : D} {n : FuncId} {args cap : List D} {g : List Oper -> (St -> Prop) -> St -> Prop} {rest : List Oper} {K : St -> Prop} {st : St} {dst : Option Nat} (h : OC P n (args ++ cap) objs r) (h0 : z0v 5000000 own dst = false) (hm : z0v 4000000 own dst = true) (hr : objs.all noBox = true)
  (hk : g rest K ((st.withH (zpe st.H st.nx objs) (st.nx + objs.length)).put dst (renD (fun j => st.nx + j) r))) (ht : tcM own dst = none := by rfl) : zmk P own (.fn n cap) args g rest K st dst :=
 .inr (.inr ⟨h0, hm, _, _, _, h.2.2.2 st.H st.nx, .inl ⟨ht, zr9 st hr⟩, hk⟩)
end Go.Proofs.YtlfohdkfpdkhhaaGreatDoor.Abs
namespace Go.Proofs.YtlfohdkfpdkhhaaGreatDoor
section
open Abs Facts Tr
attribute [local irreducible] awp
set_option maxRecDepth 100000
theorem zpg (s : Ses) (hs : standsT s.draft = true) (o : Deed) (hk : o.kind = 4) :
  PC Tryz.prog 67 [zj3 s, z5m o] (z5d s.draft o (z3e s.dn)) := by
 obtain ⟨z1, z2, z3⟩ := z27 hs
 have c0 := zav s
 have c1 := zsa s.draft z1 (by omega) (by omega) o.id
 have hr : z5d s.draft o (z3e s.dn) = .tup [z0h (if zaz s.draft o.id = 0 then z0w o.id s.draft else T.zero), .int .i64 (zaz s.draft o.id)] := by
  unfold z5d doE doT; rw [hk]; rfl
 have hpr := z65 s.draft o (z3e s.dn)
 rw [hr]
 refine z1c 3 (by simp only [pureD.pureL, z5c, z3q, Bool.and_self]) (by rw [<- hr]; exact hpr) (z17 [5000011, 3000013, 5000014] Tryz.func67 rfl (by decide +kernel) z0e (by decide +kernel) (by simp [Tryz.ntmps67]) ?_)
 show awp _ _ (Code.seq _ _) _ _
 rw [show Tryz.f67.results.toList = [.cell 4 27, .tmp 5] from rfl]
 repeat' (first | ((refine z2g (N := 1) rfl fun K J => ?_); (simp (disch := omega) only [go_sem, Nat.reduceAdd, z5m])) | (refine J _ ?_; clear J K))
 refine zkh 9 (by decide +kernel) (by decide) fun K J => ?_
 simp only [List.take_succ_cons, List.take_zero, List.drop_succ_cons, List.drop_zero, zug]
 (try (simp (disch := omega) only [go_sem, Nat.reduceBEq, Nat.reduceEqDiff, ↓reduceIte, Nat.reduceAdd])); repeat' (((first | refine zqt (c0) ?_ | refine zqt (c1) ?_); (simp (disch := omega) only [go_sem, Nat.reduceBEq, Nat.reduceEqDiff, ↓reduceIte, reduceCtorEq, Nat.reduceAdd, Nat.reduceLeDiff, z0h])))
 refine ⟨J _ ?_, J _ ?_⟩ <;> clear J K
 all_goals
  repeat' (first | ((refine zqh fun K J => ?_); (simp (disch := omega) only [go_sem, Nat.reduceBEq, ↓reduceIte, Nat.reduceAdd, Nat.reduceLeDiff])) | refine zqn ?_ | refine zqu (by (simp (disch := omega) only [go_sem, Nat.reduceBEq, ↓reduceIte, Nat.reduceLeDiff]); rfl) rfl ?_ | (refine J _ ?_; clear J K))
 all_goals
  rw [hr] at hpr
  exact z0j hpr (Le.refl _)
theorem zy3 : OC Tryz.prog 41 [] [.map [(.int .i64 0, .fn 63 []), (.int .i64 1, .fn 64 []), (.int .i64 2, .fn 65 []), (.int .i64 3, .fn 66 []), (.int .i64 4, .fn 67 []), (.int .i64 5, .fn 68 [])]] (.mp 0) := by
 refine zec rfl rfl (by intro o ho; simp at ho; subst ho; rfl) (z17 [] Tryz.func41 rfl (by decide +kernel) z0e (by decide +kernel) (by simp [Tryz.ntmps41]) ?_)
 show awp _ _ (Code.seq _ _) _ _
 repeat' (first | ((refine zqh fun K J => ?_); (simp (disch := omega) only [go_sem, Nat.reduceBEq, ↓reduceIte, Int.reduceEq])) | refine zqn ?_ | refine zqu (by (simp (disch := omega) only [go_sem]); rfl) rfl ?_ | (refine J _ ?_; clear J K))
 refine ⟨fun j => j, fun i j _ _ h => h, ?_, fun j hj => ?_⟩
 ·(simp (disch := omega) only [go_sem, Nat.reduceBEq, renD])
 ·match j, hj with
  | 0, _ => (simp (disch := omega) only [go_sem])
end
section
open Abs Facts
attribute [local irreducible] awp
end
section
open Abs Facts Tr
attribute [local irreducible] awp
set_option maxRecDepth 100000
structure OpSz (o : Deed) : Prop where
 ws : o.words.length <= 1000000
 wt : ∀ w ∈ o.words, w.size <= 1000000
 lb : o.label.size <= 1000000
 un : szB o.unit = true
 ct : cntT o.unit <= 1000000
 dp : depT o.unit <= 1000000
 at1 : -9223372036854775808 <= o.at_
 at2 : o.at_ <= 9223372036854775807
theorem zht {α : Type} {c : Nat} {f : α -> D} (h : ∀ x, thickD c (f x) = true) : ∀ l : List α, thickD.thickL c (l.map f) = true
 | [] => rfl
 | x :: l => by simp only [List.map_cons, thickD.thickL, h x, zht h l, Bool.and_self]
theorem zli {c : Nat} : ∀ {l : List D}, (∀ d ∈ l, thickD c d = true) -> thickD.thickL c l = true
 | [], _ => rfl
 | d :: l, h => by simp only [thickD.thickL, h d List.mem_cons_self, zli (l := l) (fun x hx => h x (List.mem_cons_of_mem _ hx)), Bool.and_self]
theorem zne (l : List Wd) : thickD 3 (z0q l) = true := by
 unfold z0q
 simp only [thickD, zht (c := 3) (f := z4b) (fun _ => rfl) l]
 simp
theorem zdc : ∀ t : T, thickD 3 (z0h t) = true := by
 refine z5p fun t ih => ?_
 rw [z0h, z0s]
 have hk : thickD 3 (z18 t.kids) = true := by
  unfold z18
  have : thickD.thickL 3 (t.kids.map z0h) = true := zli fun d V => by
   obtain ⟨k, hk, rfl⟩ := List.mem_map.1 V
   exact ih k hk
  simp only [thickD, this]
  simp
 simp only [thickD, thickD.thickL, zne, hk, Bool.and_self]
theorem z4z (u : T) (o : Deed) (n : Nat) : thickD 3 (z5d u o n) = true := by
 simp only [z5d, thickD, thickD.thickL, zdc, Bool.and_self]
theorem znf (s : Ses) (n : Nat) : lowO n (edO s) = true := z4e n (z1a s) (z7u s)
theorem z7p {u : T} {o : Deed} {n : Nat} {e : Int} (h : doE u o n = e) (he : e ≠ 0) : z5d u o n = .tup [z0h T.zero, .int .i64 e] := by
 unfold z5d; rw [h, if_neg he]
theorem za6 {u : T} {o : Deed} {n : Nat} {t : T} (h : doE u o n = 0) (ht : doT u o n = t) : z5d u o n = .tup [z0h t, .int .i64 0] := by
 unfold z5d; rw [h, if_pos rfl, ht]
theorem zdx {f : FuncId} {s : Ses} {rest : List D} {r : D} (h : PC Tryz.prog f (zj3 s :: rest) r) (ht : thickD 3 r = true) (k : Nat) (H : HM) (nx : Nat) (_ : k < nx) (hH : H k = some (.box 74 (z1a s))) : RC Tryz.prog f (.ptr k 0 :: rest) H nx r :=
 PC.lend h hH ht
theorem z7q (s : Ses) (o : Deed) : LeL [.rsl true 8 (List.map z0h (trees s.base (s.dn ++ [o]))), .rsl true 18 (List.map z5m (s.dn ++ [o])), .int .i64 ((s.dn.length : Nat) + 1 : Int)] (z1a ⟨s.base, s.dn ++ [o], []⟩) := by
 unfold z1a
 simp only [List.append_nil]
 exact ⟨Le.refl _, Le.rsl, by rw [show (((s.dn ++ [o]).length : Nat) : Int) = (s.dn.length : Nat) + 1 from by simp]; exact Le.refl _, trivial⟩
theorem zek (s : Ses) (hs : standsT s.base = true) (hok : OKrun s.base s.dn) (ho : ∀ o ∈ s.dn, OpSz o) (hn : z3e s.dn <= 100000000) (hl : s.dn.length <= 1000) (hl2 : s.un.length <= 1000) (o : Deed) (hoo : OpSz o) (k : Nat) :
  TC Tryz.prog 15 [.ptr k 0, z5m o] k (edO s) (edO (z1l s o).2) (.int .i64 (z1l s o).1) := by
 have V : standsT s.draft = true := z9c hs hok
 have hoc := zy3
 refine zoy (k := 1) rfl (fun n _ => znf _ n) fun H nx hk hH => (z17 [4000011, 3000013, 5000049, 5000062, 1000051, 1000064] Tryz.func15 rfl (by decide +kernel) z0e (by decide +kernel) (by simp [Tryz.ntmps15]) ?_)
 show awp _ _ (Code.seq _ _) _ _
 rw [show Tryz.f15.results.toList = [.tmp 4] from rfl]
 have hnb := zmu hk
 have hH2 : H k = some (.box 74 (z1a s)) := hH
 have htl : (trees s.base (s.dn ++ s.un)).length = s.dn.length + s.un.length + 1 := by rw [z9d, List.length_append]
 have htt : (trees s.base (s.dn ++ s.un)).take (s.dn.length + 1) = trees s.base s.dn := zrg _ _ _
 have hdt : (s.dn ++ s.un).take s.dn.length = s.dn := List.take_left' rfl
 have hdl : (s.dn ++ s.un).length = s.dn.length + s.un.length := List.length_append
 have hz : ((s.dn.length : Nat) : Int) + 1 - 1 = ((s.dn.length : Nat) : Int) := by omega
 have hz2 : ((s.dn.length : Nat) : Int) + 1 = ((s.dn.length + 1 : Nat) : Int) := by omega
 have htl2 : (trees s.base s.dn).length = s.dn.length + 1 := z9d _ _
 have hz3 : (((s.dn.length : Nat) : Int) + 1).toNat = s.dn.length + 1 := by omega
 have hmn : min (s.dn.length + 1) (s.dn.length + s.un.length + 1) = s.dn.length + 1 := by omega
 have hmn2 : min s.dn.length (s.dn.length + s.un.length) = s.dn.length := by omega
 have hg1 : z23 true 8 (s.dn.length + 1 + 1) ((trees s.base s.dn).flatMap z0b ++ z0b (doT s.draft o (z3e s.dn))) = (trees s.base (s.dn ++ [o])).map z0h := by
  have h := z7d (f := z0b) (sz := 8) z0f (trees s.base (s.dn ++ [o]))
  rw [z9d, List.length_append, List.length_singleton] at h
  rw [zhg, List.flatMap_append, List.flatMap_singleton, za4] at h
  rw [zhg, za4]
  exact h
 have hp1 : pureD.pureL ((trees s.base s.dn).flatMap z0b) = true := z29 z05 _
 have hg2 : z23 true 18 (s.dn.length + 1) (s.dn.flatMap z1r ++ z1r o) = (s.dn ++ [o]).map z5m := by
  have := zdf (s.dn ++ [o])
  rw [List.length_append, List.length_singleton, List.flatMap_append, List.flatMap_singleton] at this
  exact this
 have hp2 := zgq s.dn
 by_cases k0 : o.kind = 0
 ·have c1 := zdx (zn4 s V o k0 hoo.ws hoo.wt) (z4z _ _ _) k
  by_cases he : doE s.draft o (z3e s.dn) = 0
  ·have ha : z1l s o = (0, ⟨s.base, s.dn ++ [o], []⟩) := by unfold z1l; rw [if_pos he]
   rw [ha]
   rw [za6 he rfl] at c1
   have hst : standsT (doT s.draft o (z3e s.dn)) = true := z56 he
   have hzs := z27 hst
   have c2 := z4c (doT s.draft o (z3e s.dn)) hzs.1
   have c3 := zcc o hoo.ws hoo.un
   repeat' (first | refine zqj ?_ | ((first | refine z2g (N := 12) rfl fun K J => ?_ | refine z3d (N := 12) rfl (by decide +kernel) fun K J => ?_ | refine z3u (hoc) rfl rfl rfl ?_ | ((refine z0x (c1 _ _ ?_ ?_) ?_); (focus (((simp (disch := omega) only [go_sem]); done))); (focus ((simp (disch := omega) only [go_sem, hH2, hnb, z1a, z3f]); done))) | refine zqt (c2) ?_ | refine zqt (c3) ?_); (simp (disch := omega) only [go_sem, Nat.reduceBEq, Nat.reduceEqDiff, ↓reduceIte, reduceCtorEq, Nat.reduceAdd, Nat.reduceMul, Nat.reduceLeDiff, Nat.reduceLT, hH2, hnb, z5m, z0h, k0, z1a, z3f, htl, hdl, <- List.map_take, htt, hdt, List.length_map, hz, htl2, hz3, Int.toNat_natCast, List.append_nil, z2o, z37, hg1, hp1, hg2, hp2])) | ((refine zqd _ rfl (fun hc => ?_) (fun hc => ?_)) <;> (first | (cases hc; done) | ((try simp only [z09] at hc); (try (exfalso; omega))))) | refine zqb ?_ | (refine J _ ?_; clear J K))
   refine z1s fun K J => ?_
   (simp (disch := omega) only [go_sem])
   refine J _ _ (z8c (b := k) (cs' := z1a ⟨s.base, s.dn ++ [o], []⟩) (by (simp (disch := omega) only [go_sem, hnb]); rfl) (z7q s o)) ?_
   clear J K
   repeat' (first | refine zqn ?_ | refine zqu (by (simp (disch := omega) only [go_sem, Nat.reduceBEq]); rfl) rfl ?_)
   refine ⟨⟨_, z03 0 rfl, Le.refl _⟩, ?_, fun id hid hne => ?_⟩
   ·(simp (disch := omega) only [go_sem, hnb])
    first | done | rfl
   ·(simp (disch := omega) only [go_sem])
    simp (disch := omega) only [z2d]
  ·have ha : z1l s o = (doE s.draft o (z3e s.dn), s) := by unfold z1l; rw [if_neg he]
   rw [ha]
   rw [z7p rfl he] at c1
   repeat' (first | refine zqj ?_ | ((first | refine zqh fun K J => ?_ | refine zqe (by decide +kernel) fun K J => ?_ | refine z3u (hoc) rfl rfl rfl ?_ | ((refine z0x (c1 _ _ ?_ ?_) ?_); (focus (((simp (disch := omega) only [go_sem]); done))); (focus ((simp (disch := omega) only [go_sem, hH2, hnb]); done)))); (simp (disch := omega) only [go_sem, Nat.reduceBEq, Nat.reduceEqDiff, ↓reduceIte, reduceCtorEq, Nat.reduceAdd, Nat.reduceLeDiff, hnb, z5m, k0])) | ((refine zqd _ rfl (fun hc => ?_) (fun hc => ?_)) <;> (first | (cases hc; done) | ((try simp only [z09] at hc); (try (exfalso; omega))))) | refine zqb ?_ | refine zqg ?_ | refine zqu (by (simp (disch := omega) only [go_sem, Nat.reduceBEq]); rfl) rfl ?_ | (refine J _ ?_; clear J K))
   refine ⟨⟨_, z03 0 rfl, Le.refl _⟩, ?_, fun id hid hne => ?_⟩
   ·(simp (disch := omega) only [go_sem, hH2, hnb])
    first | done | rfl
   ·(simp (disch := omega) only [go_sem])
    simp (disch := omega) only [z2d]
 by_cases k1 : o.kind = 1
 ·have c1 := zdx (zrt s V o k1 hoo.ws hoo.wt) (z4z _ _ _) k
  by_cases he : doE s.draft o (z3e s.dn) = 0
  ·have ha : z1l s o = (0, ⟨s.base, s.dn ++ [o], []⟩) := by unfold z1l; rw [if_pos he]
   rw [ha]
   rw [za6 he rfl] at c1
   have hst : standsT (doT s.draft o (z3e s.dn)) = true := z56 he
   have hzs := z27 hst
   have c2 := z4c (doT s.draft o (z3e s.dn)) hzs.1
   have c3 := zcc o hoo.ws hoo.un
   repeat' (first | refine zqj ?_ | ((first | refine z2g (N := 12) rfl fun K J => ?_ | refine z3d (N := 12) rfl (by decide +kernel) fun K J => ?_ | refine z3u (hoc) rfl rfl rfl ?_ | ((refine z0x (c1 _ _ ?_ ?_) ?_); (focus (((simp (disch := omega) only [go_sem]); done))); (focus ((simp (disch := omega) only [go_sem, hH2, hnb, z1a, z3f]); done))) | refine zqt (c2) ?_ | refine zqt (c3) ?_); (simp (disch := omega) only [go_sem, Nat.reduceBEq, Nat.reduceEqDiff, ↓reduceIte, reduceCtorEq, Nat.reduceAdd, Nat.reduceMul, Nat.reduceLeDiff, Nat.reduceLT, Int.reduceEq, hH2, hnb, z5m, z0h, k1, z1a, z3f, htl, hdl, <- List.map_take, htt, hdt, List.length_map, hz, htl2, hz3, Int.toNat_natCast, List.append_nil, z2o, z37, hg1, hp1, hg2, hp2])) | ((refine zqd _ rfl (fun hc => ?_) (fun hc => ?_)) <;> (first | (cases hc; done) | ((try simp only [z09] at hc); (try (exfalso; omega))))) | refine zqb ?_ | (refine J _ ?_; clear J K))
   refine z1s fun K J => ?_
   (simp (disch := omega) only [go_sem])
   refine J _ _ (z8c (b := k) (cs' := z1a ⟨s.base, s.dn ++ [o], []⟩) (by (simp (disch := omega) only [go_sem, hnb]); rfl) (z7q s o)) ?_
   clear J K
   repeat' (first | refine zqn ?_ | refine zqu (by (simp (disch := omega) only [go_sem, Nat.reduceBEq]); rfl) rfl ?_)
   refine ⟨⟨_, z03 0 rfl, Le.refl _⟩, ?_, fun id hid hne => ?_⟩
   ·(simp (disch := omega) only [go_sem, hnb])
    first | done | rfl
   ·(simp (disch := omega) only [go_sem])
    simp (disch := omega) only [z2d]
  ·have ha : z1l s o = (doE s.draft o (z3e s.dn), s) := by unfold z1l; rw [if_neg he]
   rw [ha]
   rw [z7p rfl he] at c1
   repeat' (first | refine zqj ?_ | ((first | refine zqh fun K J => ?_ | refine zqe (by decide +kernel) fun K J => ?_ | refine z3u (hoc) rfl rfl rfl ?_ | ((refine z0x (c1 _ _ ?_ ?_) ?_); (focus (((simp (disch := omega) only [go_sem]); done))); (focus ((simp (disch := omega) only [go_sem, hH2, hnb]); done)))); (simp (disch := omega) only [go_sem, Nat.reduceBEq, Nat.reduceEqDiff, ↓reduceIte, reduceCtorEq, Nat.reduceAdd, Nat.reduceLeDiff, Int.reduceEq, hnb, z5m, k1])) | ((refine zqd _ rfl (fun hc => ?_) (fun hc => ?_)) <;> (first | (cases hc; done) | ((try simp only [z09] at hc); (try (exfalso; omega))))) | refine zqb ?_ | refine zqg ?_ | refine zqu (by (simp (disch := omega) only [go_sem, Nat.reduceBEq]); rfl) rfl ?_ | (refine J _ ?_; clear J K))
   refine ⟨⟨_, z03 0 rfl, Le.refl _⟩, ?_, fun id hid hne => ?_⟩
   ·(simp (disch := omega) only [go_sem, hH2, hnb])
    first | done | rfl
   ·(simp (disch := omega) only [go_sem])
    simp (disch := omega) only [z2d]
 by_cases k2 : o.kind = 2
 ·have c1 := zdx (zn5 s V o k2 hoo.lb) (z4z _ _ _) k
  by_cases he : doE s.draft o (z3e s.dn) = 0
  ·have ha : z1l s o = (0, ⟨s.base, s.dn ++ [o], []⟩) := by unfold z1l; rw [if_pos he]
   rw [ha]
   rw [za6 he rfl] at c1
   have hst : standsT (doT s.draft o (z3e s.dn)) = true := z56 he
   have hzs := z27 hst
   have c2 := z4c (doT s.draft o (z3e s.dn)) hzs.1
   have c3 := zcc o hoo.ws hoo.un
   repeat' (first | refine zqj ?_ | ((first | refine z2g (N := 12) rfl fun K J => ?_ | refine z3d (N := 12) rfl (by decide +kernel) fun K J => ?_ | refine z3u (hoc) rfl rfl rfl ?_ | ((refine z0x (c1 _ _ ?_ ?_) ?_); (focus (((simp (disch := omega) only [go_sem]); done))); (focus ((simp (disch := omega) only [go_sem, hH2, hnb, z1a, z3f]); done))) | refine zqt (c2) ?_ | refine zqt (c3) ?_); (simp (disch := omega) only [go_sem, Nat.reduceBEq, Nat.reduceEqDiff, ↓reduceIte, reduceCtorEq, Nat.reduceAdd, Nat.reduceMul, Nat.reduceLeDiff, Nat.reduceLT, Int.reduceEq, hH2, hnb, z5m, z0h, k2, z1a, z3f, htl, hdl, <- List.map_take, htt, hdt, List.length_map, hz, htl2, hz3, Int.toNat_natCast, List.append_nil, z2o, z37, hg1, hp1, hg2, hp2])) | ((refine zqd _ rfl (fun hc => ?_) (fun hc => ?_)) <;> (first | (cases hc; done) | ((try simp only [z09] at hc); (try (exfalso; omega))))) | refine zqb ?_ | (refine J _ ?_; clear J K))
   refine z1s fun K J => ?_
   (simp (disch := omega) only [go_sem])
   refine J _ _ (z8c (b := k) (cs' := z1a ⟨s.base, s.dn ++ [o], []⟩) (by (simp (disch := omega) only [go_sem, hnb]); rfl) (z7q s o)) ?_
   clear J K
   repeat' (first | refine zqn ?_ | refine zqu (by (simp (disch := omega) only [go_sem, Nat.reduceBEq]); rfl) rfl ?_)
   refine ⟨⟨_, z03 0 rfl, Le.refl _⟩, ?_, fun id hid hne => ?_⟩
   ·(simp (disch := omega) only [go_sem, hnb])
    first | done | rfl
   ·(simp (disch := omega) only [go_sem])
    simp (disch := omega) only [z2d]
  ·have ha : z1l s o = (doE s.draft o (z3e s.dn), s) := by unfold z1l; rw [if_neg he]
   rw [ha]
   rw [z7p rfl he] at c1
   repeat' (first | refine zqj ?_ | ((first | refine zqh fun K J => ?_ | refine zqe (by decide +kernel) fun K J => ?_ | refine z3u (hoc) rfl rfl rfl ?_ | ((refine z0x (c1 _ _ ?_ ?_) ?_); (focus (((simp (disch := omega) only [go_sem]); done))); (focus ((simp (disch := omega) only [go_sem, hH2, hnb]); done)))); (simp (disch := omega) only [go_sem, Nat.reduceBEq, Nat.reduceEqDiff, ↓reduceIte, reduceCtorEq, Nat.reduceAdd, Nat.reduceLeDiff, Int.reduceEq, hnb, z5m, k2])) | ((refine zqd _ rfl (fun hc => ?_) (fun hc => ?_)) <;> (first | (cases hc; done) | ((try simp only [z09] at hc); (try (exfalso; omega))))) | refine zqb ?_ | refine zqg ?_ | refine zqu (by (simp (disch := omega) only [go_sem, Nat.reduceBEq]); rfl) rfl ?_ | (refine J _ ?_; clear J K))
   refine ⟨⟨_, z03 0 rfl, Le.refl _⟩, ?_, fun id hid hne => ?_⟩
   ·(simp (disch := omega) only [go_sem, hH2, hnb])
    first | done | rfl
   ·(simp (disch := omega) only [go_sem])
    simp (disch := omega) only [z2d]
 by_cases k3 : o.kind = 3
 ·have c1 := zdx (ztx s V o k3 hoo.un hoo.ct hoo.dp (fun d hm _ => ⟨(ho d hm).un, (ho d hm).ct⟩) hn (by omega)) (z4z _ _ _) k
  by_cases he : doE s.draft o (z3e s.dn) = 0
  ·have ha : z1l s o = (0, ⟨s.base, s.dn ++ [o], []⟩) := by unfold z1l; rw [if_pos he]
   rw [ha]
   rw [za6 he rfl] at c1
   have hst : standsT (doT s.draft o (z3e s.dn)) = true := z56 he
   have hzs := z27 hst
   have c2 := z4c (doT s.draft o (z3e s.dn)) hzs.1
   have c3 := zcc o hoo.ws hoo.un
   repeat' (first | refine zqj ?_ | ((first | refine z2g (N := 12) rfl fun K J => ?_ | refine z3d (N := 12) rfl (by decide +kernel) fun K J => ?_ | refine z3u (hoc) rfl rfl rfl ?_ | ((refine z0x (c1 _ _ ?_ ?_) ?_); (focus (((simp (disch := omega) only [go_sem]); done))); (focus ((simp (disch := omega) only [go_sem, hH2, hnb, z1a, z3f]); done))) | refine zqt (c2) ?_ | refine zqt (c3) ?_); (simp (disch := omega) only [go_sem, Nat.reduceBEq, Nat.reduceEqDiff, ↓reduceIte, reduceCtorEq, Nat.reduceAdd, Nat.reduceMul, Nat.reduceLeDiff, Nat.reduceLT, Int.reduceEq, hH2, hnb, z5m, z0h, k3, z1a, z3f, htl, hdl, <- List.map_take, htt, hdt, List.length_map, hz, htl2, hz3, Int.toNat_natCast, List.append_nil, z2o, z37, hg1, hp1, hg2, hp2])) | ((refine zqd _ rfl (fun hc => ?_) (fun hc => ?_)) <;> (first | (cases hc; done) | ((try simp only [z09] at hc); (try (exfalso; omega))))) | refine zqb ?_ | (refine J _ ?_; clear J K))
   refine z1s fun K J => ?_
   (simp (disch := omega) only [go_sem])
   refine J _ _ (z8c (b := k) (cs' := z1a ⟨s.base, s.dn ++ [o], []⟩) (by (simp (disch := omega) only [go_sem, hnb]); rfl) (z7q s o)) ?_
   clear J K
   repeat' (first | refine zqn ?_ | refine zqu (by (simp (disch := omega) only [go_sem, Nat.reduceBEq]); rfl) rfl ?_)
   refine ⟨⟨_, z03 0 rfl, Le.refl _⟩, ?_, fun id hid hne => ?_⟩
   ·(simp (disch := omega) only [go_sem, hnb])
    first | done | rfl
   ·(simp (disch := omega) only [go_sem])
    simp (disch := omega) only [z2d]
  ·have ha : z1l s o = (doE s.draft o (z3e s.dn), s) := by unfold z1l; rw [if_neg he]
   rw [ha]
   rw [z7p rfl he] at c1
   repeat' (first | refine zqj ?_ | ((first | refine zqh fun K J => ?_ | refine zqe (by decide +kernel) fun K J => ?_ | refine z3u (hoc) rfl rfl rfl ?_ | ((refine z0x (c1 _ _ ?_ ?_) ?_); (focus (((simp (disch := omega) only [go_sem]); done))); (focus ((simp (disch := omega) only [go_sem, hH2, hnb]); done)))); (simp (disch := omega) only [go_sem, Nat.reduceBEq, Nat.reduceEqDiff, ↓reduceIte, reduceCtorEq, Nat.reduceAdd, Nat.reduceLeDiff, Int.reduceEq, hnb, z5m, k3])) | ((refine zqd _ rfl (fun hc => ?_) (fun hc => ?_)) <;> (first | (cases hc; done) | ((try simp only [z09] at hc); (try (exfalso; omega))))) | refine zqb ?_ | refine zqg ?_ | refine zqu (by (simp (disch := omega) only [go_sem, Nat.reduceBEq]); rfl) rfl ?_ | (refine J _ ?_; clear J K))
   refine ⟨⟨_, z03 0 rfl, Le.refl _⟩, ?_, fun id hid hne => ?_⟩
   ·(simp (disch := omega) only [go_sem, hH2, hnb])
    first | done | rfl
   ·(simp (disch := omega) only [go_sem])
    simp (disch := omega) only [z2d]
 by_cases k4 : o.kind = 4
 ·have c1 := zdx (zpg s V o k4) (z4z _ _ _) k
  by_cases he : doE s.draft o (z3e s.dn) = 0
  ·have ha : z1l s o = (0, ⟨s.base, s.dn ++ [o], []⟩) := by unfold z1l; rw [if_pos he]
   rw [ha]
   rw [za6 he rfl] at c1
   have hst : standsT (doT s.draft o (z3e s.dn)) = true := z56 he
   have hzs := z27 hst
   have c2 := z4c (doT s.draft o (z3e s.dn)) hzs.1
   have c3 := zcc o hoo.ws hoo.un
   repeat' (first | refine zqj ?_ | ((first | refine z2g (N := 12) rfl fun K J => ?_ | refine z3d (N := 12) rfl (by decide +kernel) fun K J => ?_ | refine z3u (hoc) rfl rfl rfl ?_ | ((refine z0x (c1 _ _ ?_ ?_) ?_); (focus (((simp (disch := omega) only [go_sem]); done))); (focus ((simp (disch := omega) only [go_sem, hH2, hnb, z1a, z3f]); done))) | refine zqt (c2) ?_ | refine zqt (c3) ?_); (simp (disch := omega) only [go_sem, Nat.reduceBEq, Nat.reduceEqDiff, ↓reduceIte, reduceCtorEq, Nat.reduceAdd, Nat.reduceMul, Nat.reduceLeDiff, Nat.reduceLT, Int.reduceEq, hH2, hnb, z5m, z0h, k4, z1a, z3f, htl, hdl, <- List.map_take, htt, hdt, List.length_map, hz, htl2, hz3, Int.toNat_natCast, List.append_nil, z2o, z37, hg1, hp1, hg2, hp2])) | ((refine zqd _ rfl (fun hc => ?_) (fun hc => ?_)) <;> (first | (cases hc; done) | ((try simp only [z09] at hc); (try (exfalso; omega))))) | refine zqb ?_ | (refine J _ ?_; clear J K))
   refine z1s fun K J => ?_
   (simp (disch := omega) only [go_sem])
   refine J _ _ (z8c (b := k) (cs' := z1a ⟨s.base, s.dn ++ [o], []⟩) (by (simp (disch := omega) only [go_sem, hnb]); rfl) (z7q s o)) ?_
   clear J K
   repeat' (first | refine zqn ?_ | refine zqu (by (simp (disch := omega) only [go_sem, Nat.reduceBEq]); rfl) rfl ?_)
   refine ⟨⟨_, z03 0 rfl, Le.refl _⟩, ?_, fun id hid hne => ?_⟩
   ·(simp (disch := omega) only [go_sem, hnb])
    first | done | rfl
   ·(simp (disch := omega) only [go_sem])
    simp (disch := omega) only [z2d]
  ·have ha : z1l s o = (doE s.draft o (z3e s.dn), s) := by unfold z1l; rw [if_neg he]
   rw [ha]
   rw [z7p rfl he] at c1
   repeat' (first | refine zqj ?_ | ((first | refine zqh fun K J => ?_ | refine zqe (by decide +kernel) fun K J => ?_ | refine z3u (hoc) rfl rfl rfl ?_ | ((refine z0x (c1 _ _ ?_ ?_) ?_); (focus (((simp (disch := omega) only [go_sem]); done))); (focus ((simp (disch := omega) only [go_sem, hH2, hnb]); done)))); (simp (disch := omega) only [go_sem, Nat.reduceBEq, Nat.reduceEqDiff, ↓reduceIte, reduceCtorEq, Nat.reduceAdd, Nat.reduceLeDiff, Int.reduceEq, hnb, z5m, k4])) | ((refine zqd _ rfl (fun hc => ?_) (fun hc => ?_)) <;> (first | (cases hc; done) | ((try simp only [z09] at hc); (try (exfalso; omega))))) | refine zqb ?_ | refine zqg ?_ | refine zqu (by (simp (disch := omega) only [go_sem, Nat.reduceBEq]); rfl) rfl ?_ | (refine J _ ?_; clear J K))
   refine ⟨⟨_, z03 0 rfl, Le.refl _⟩, ?_, fun id hid hne => ?_⟩
   ·(simp (disch := omega) only [go_sem, hH2, hnb])
    first | done | rfl
   ·(simp (disch := omega) only [go_sem])
    simp (disch := omega) only [z2d]
 by_cases k5 : o.kind = 5
 ·have c1 := zdx (zru s V o k5) (z4z _ _ _) k
  by_cases he : doE s.draft o (z3e s.dn) = 0
  ·have ha : z1l s o = (0, ⟨s.base, s.dn ++ [o], []⟩) := by unfold z1l; rw [if_pos he]
   rw [ha]
   rw [za6 he rfl] at c1
   have hst : standsT (doT s.draft o (z3e s.dn)) = true := z56 he
   have hzs := z27 hst
   have c2 := z4c (doT s.draft o (z3e s.dn)) hzs.1
   have c3 := zcc o hoo.ws hoo.un
   repeat' (first | refine zqj ?_ | ((first | refine z2g (N := 12) rfl fun K J => ?_ | refine z3d (N := 12) rfl (by decide +kernel) fun K J => ?_ | refine z3u (hoc) rfl rfl rfl ?_ | ((refine z0x (c1 _ _ ?_ ?_) ?_); (focus (((simp (disch := omega) only [go_sem]); done))); (focus ((simp (disch := omega) only [go_sem, hH2, hnb, z1a, z3f]); done))) | refine zqt (c2) ?_ | refine zqt (c3) ?_); (simp (disch := omega) only [go_sem, Nat.reduceBEq, Nat.reduceEqDiff, ↓reduceIte, reduceCtorEq, Nat.reduceAdd, Nat.reduceMul, Nat.reduceLeDiff, Nat.reduceLT, Int.reduceEq, hH2, hnb, z5m, z0h, k5, z1a, z3f, htl, hdl, <- List.map_take, htt, hdt, List.length_map, hz, htl2, hz3, Int.toNat_natCast, List.append_nil, z2o, z37, hg1, hp1, hg2, hp2])) | ((refine zqd _ rfl (fun hc => ?_) (fun hc => ?_)) <;> (first | (cases hc; done) | ((try simp only [z09] at hc); (try (exfalso; omega))))) | refine zqb ?_ | (refine J _ ?_; clear J K))
   refine z1s fun K J => ?_
   (simp (disch := omega) only [go_sem])
   refine J _ _ (z8c (b := k) (cs' := z1a ⟨s.base, s.dn ++ [o], []⟩) (by (simp (disch := omega) only [go_sem, hnb]); rfl) (z7q s o)) ?_
   clear J K
   repeat' (first | refine zqn ?_ | refine zqu (by (simp (disch := omega) only [go_sem, Nat.reduceBEq]); rfl) rfl ?_)
   refine ⟨⟨_, z03 0 rfl, Le.refl _⟩, ?_, fun id hid hne => ?_⟩
   ·(simp (disch := omega) only [go_sem, hnb])
    first | done | rfl
   ·(simp (disch := omega) only [go_sem])
    simp (disch := omega) only [z2d]
  ·have ha : z1l s o = (doE s.draft o (z3e s.dn), s) := by unfold z1l; rw [if_neg he]
   rw [ha]
   rw [z7p rfl he] at c1
   repeat' (first | refine zqj ?_ | ((first | refine zqh fun K J => ?_ | refine zqe (by decide +kernel) fun K J => ?_ | refine z3u (hoc) rfl rfl rfl ?_ | ((refine z0x (c1 _ _ ?_ ?_) ?_); (focus (((simp (disch := omega) only [go_sem]); done))); (focus ((simp (disch := omega) only [go_sem, hH2, hnb]); done)))); (simp (disch := omega) only [go_sem, Nat.reduceBEq, Nat.reduceEqDiff, ↓reduceIte, reduceCtorEq, Nat.reduceAdd, Nat.reduceLeDiff, Int.reduceEq, hnb, z5m, k5])) | ((refine zqd _ rfl (fun hc => ?_) (fun hc => ?_)) <;> (first | (cases hc; done) | ((try simp only [z09] at hc); (try (exfalso; omega))))) | refine zqb ?_ | refine zqg ?_ | refine zqu (by (simp (disch := omega) only [go_sem, Nat.reduceBEq]); rfl) rfl ?_ | (refine J _ ?_; clear J K))
   refine ⟨⟨_, z03 0 rfl, Le.refl _⟩, ?_, fun id hid hne => ?_⟩
   ·(simp (disch := omega) only [go_sem, hH2, hnb])
    first | done | rfl
   ·(simp (disch := omega) only [go_sem])
    simp (disch := omega) only [z2d]
 have he : doE s.draft o (z3e s.dn) = 1 := by unfold doE; rw [if_neg (by omega), if_neg k2, if_neg k3, if_neg k4, if_neg k5]
 have ha : z1l s o = (1, s) := by unfold z1l; rw [he, if_neg (by decide)]
 rw [ha]
 have j0 : ¬ 0 = o.kind := fun h => k0 h.symm
 have j1 : ¬ 1 = o.kind := fun h => k1 h.symm
 have j2 : ¬ 2 = o.kind := fun h => k2 h.symm
 have j3 : ¬ 3 = o.kind := fun h => k3 h.symm
 have j4 : ¬ 4 = o.kind := fun h => k4 h.symm
 have j5 : ¬ 5 = o.kind := fun h => k5 h.symm
 repeat' (first | refine zqj ?_ | ((first | refine zqh fun K J => ?_ | refine zqe (by decide +kernel) fun K J => ?_ | refine z3u (hoc) rfl rfl rfl ?_); (simp (disch := omega) only [go_sem, Nat.reduceBEq, Nat.reduceEqDiff, ↓reduceIte, reduceCtorEq, Nat.reduceAdd, hnb, z5m, k0, k1, k2, k3, k4, k5])) | ((refine zqd _ rfl (fun hc => ?_) (fun hc => ?_)) <;> (first | (cases hc; done) | ((try simp only [] at hc); (try (exfalso; omega))))) | refine zqg ?_ | refine zqu (by (simp (disch := omega) only [go_sem, Nat.reduceBEq]); rfl) rfl ?_ | (refine J _ ?_; clear J K))
 refine ⟨⟨_, z03 0 rfl, Le.refl _⟩, ?_, fun id hid hne => ?_⟩
 ·(simp (disch := omega) only [go_sem, hH2, hnb])
  first | done | rfl
 ·(simp (disch := omega) only [go_sem])
  simp (disch := omega) only [z2d]
theorem tc_Undo (s : Ses) (hl : s.dn.length <= 1000) (hl2 : s.un.length <= 1000) (k : Nat) :
  TC Tryz.prog 21 [.ptr k 0] k (edO s) (edO (za8 s).2) (.bool (za8 s).1) := by
 refine zoy (k := 1) rfl (fun n _ => znf _ n) fun H nx hk hH => (z17 [] Tryz.func21 rfl (by decide +kernel) z0e (by decide +kernel) (by simp [Tryz.ntmps21]) ?_)
 show awp _ _ (Code.seq _ _) _ _
 rw [show Tryz.f21.results.toList = [.tmp 2] from rfl]
 have hnb := zmu hk
 obtain ⟨b, d, u⟩ := s
 have hH2 : H k = some (.box 74 (z1a ⟨b, d, u⟩)) := hH
 rcases List.eq_nil_or_concat d with rfl | ⟨l, o, V⟩
 ·have ha : za8 ⟨b, [], u⟩ = (false, ⟨b, [], u⟩) := rfl
  rw [ha]
  repeat' (first | refine zqj ?_ | ((refine zqh fun K J => ?_); (simp (disch := omega) only [go_sem, Nat.reduceBEq, ↓reduceIte, reduceCtorEq, Nat.reduceAdd, hH2, z1a])) | ((refine zqd _ rfl (fun hc => ?_) (fun hc => ?_)) <;> (first | (cases hc; done) | ((try simp only [decide_eq_true_eq] at hc); (try (exfalso; omega))))) | refine zqg ?_ | refine zqu (by (simp (disch := omega) only [go_sem, Nat.reduceBEq]); rfl) rfl ?_ | (refine J _ ?_; clear J K))
  refine ⟨⟨_, z03 0 rfl, Le.refl _⟩, ?_, fun id hid hne => ?_⟩
  ·(simp (disch := omega) only [go_sem, hH2])
   first | done | rfl
  ·(simp (disch := omega) only [go_sem])
 ·simp only [List.concat_eq_append] at V
  subst V
  have ha : za8 ⟨b, l ++ [o], u⟩ = (true, ⟨b, l, o :: u⟩) := by unfold za8; simp
  rw [ha]
  have hlen : (l ++ [o]).length = l.length + 1 := by simp
  have hl : l.length + 1 <= 1000 := by rw [<- hlen]; exact hl
  have hz : ((l.length + 1 : Nat) : Int) - 1 = ((l.length : Nat) : Int) := by omega
  have hfin : z1a ⟨b, l, o :: u⟩ = [.rsl true 8 ((trees b ((l ++ [o]) ++ u)).map z0h), z3f ((l ++ [o]) ++ u), .int .i64 (l.length : Nat)] := by
   unfold z1a; simp only [List.append_assoc, List.singleton_append]
  repeat' (first | refine zqj ?_ | ((refine zqh fun K J => ?_); (simp (disch := omega) only [go_sem, Nat.reduceBEq, ↓reduceIte, reduceCtorEq, Nat.reduceAdd, Nat.reduceLeDiff, Nat.reduceLT, hH2, z1a, hlen, hz])) | ((refine zqd _ rfl (fun hc => ?_) (fun hc => ?_)) <;> (first | (cases hc; done) | ((try simp only [decide_eq_false_iff_not] at hc); (try (exfalso; omega))))) | refine zqb ?_ | refine zqn ?_ | refine zqu (by (simp (disch := omega) only [go_sem, Nat.reduceBEq]); rfl) rfl ?_ | (refine J _ ?_; clear J K))
  refine ⟨⟨_, z03 0 rfl, Le.refl _⟩, ?_, fun id hid hne => ?_⟩
  ·unfold edO
   rw [hfin]
   (simp (disch := omega) only [go_sem])
   first | done | rfl
  ·(simp (disch := omega) only [go_sem])
   simp (disch := omega) only [z2d]
theorem tc_Redo (s : Ses) (hl : s.dn.length <= 1000) (hl2 : s.un.length <= 1000) (k : Nat) :
  TC Tryz.prog 22 [.ptr k 0] k (edO s) (edO (za9 s).2) (.bool (za9 s).1) := by
 refine zoy (k := 1) rfl (fun n _ => znf _ n) fun H nx hk hH => (z17 [] Tryz.func22 rfl (by decide +kernel) z0e (by decide +kernel) (by simp [Tryz.ntmps22]) ?_)
 show awp _ _ (Code.seq _ _) _ _
 rw [show Tryz.f22.results.toList = [.tmp 2] from rfl]
 have hnb := zmu hk
 obtain ⟨b, d, u⟩ := s
 have hH2 : H k = some (.box 74 (z1a ⟨b, d, u⟩)) := hH
 have hl : d.length <= 1000 := hl
 cases u with
 | nil =>
  have ha : za9 ⟨b, d, []⟩ = (false, ⟨b, d, []⟩) := rfl
  rw [ha]
  repeat' (first | refine zqj ?_ | ((first | refine zqh fun K J => ?_ | refine zqe (by decide +kernel) fun K J => ?_); (simp (disch := omega) only [go_sem, Nat.reduceBEq, ↓reduceIte, reduceCtorEq, Nat.reduceAdd, hH2, z1a, z3f, List.append_nil, List.length_map])) | ((refine zqd _ rfl (fun hc => ?_) (fun hc => ?_)) <;> (first | (cases hc; done) | ((try simp only [] at hc); (try (exfalso; omega))))) | refine zqg ?_ | refine zqu (by (simp (disch := omega) only [go_sem, Nat.reduceBEq]); rfl) rfl ?_ | (refine J _ ?_; clear J K))
  refine ⟨⟨_, z03 0 rfl, Le.refl _⟩, ?_, fun id hid hne => ?_⟩
  ·(simp (disch := omega) only [go_sem, hH2])
   first | done | rfl
  ·(simp (disch := omega) only [go_sem])
 | cons o u =>
  have ha : za9 ⟨b, d, o :: u⟩ = (true, ⟨b, d ++ [o], u⟩) := rfl
  rw [ha]
  have hdl : (d ++ o :: u).length = d.length + u.length + 1 := by simp; omega
  have hl2 : u.length + 1 <= 1000 := hl2
  have hfin : z1a ⟨b, d ++ [o], u⟩ = [.rsl true 8 ((trees b (d ++ o :: u)).map z0h), z3f (d ++ o :: u), .int .i64 ((d.length : Nat) + 1 : Int)] := by
   unfold z1a; simp only [List.append_assoc, List.singleton_append, List.length_append, List.length_singleton]; rfl
  repeat' (first | refine zqj ?_ | ((first | refine zqh fun K J => ?_ | refine zqe (by decide +kernel) fun K J => ?_); (simp (disch := omega) only [go_sem, Nat.reduceBEq, ↓reduceIte, reduceCtorEq, Nat.reduceAdd, Nat.reduceLeDiff, Nat.reduceLT, hH2, z1a, z3f, hdl, List.length_map])) | ((refine zqd _ rfl (fun hc => ?_) (fun hc => ?_)) <;> (((try simp only [z09] at hc); (try (exfalso; omega))))) | refine zqb ?_ | refine zqn ?_ | refine zqu (by (simp (disch := omega) only [go_sem, Nat.reduceBEq]); rfl) rfl ?_ | (refine J _ ?_; clear J K))
  refine ⟨⟨_, z03 0 rfl, Le.refl _⟩, ?_, fun id hid hne => ?_⟩
  ·unfold edO
   rw [hfin]
   (simp (disch := omega) only [go_sem])
   first | done | rfl
  ·(simp (disch := omega) only [go_sem])
   simp (disch := omega) only [z2d]
theorem zj1 (s : Ses) (hs : standsT s.draft = true) : PC Tryz.prog 18 [zj3 s] (z0h s.draft) := by
 obtain ⟨z1, z2, z3⟩ := z27 hs
 have c0 := zav s
 have c1 := z4c s.draft z1
 have hsp : ∀ t x : T, z1e (z0b t) 0 (z0b x) = z0b x := fun t x => zde _ _ (by rw [z0f, z0f])
 refine z1c 2 (by simp only [pureD.pureL, z5c, Bool.and_self]) (z01 _) (z17 [] Tryz.func18 rfl (by decide +kernel) z0e (by decide +kernel) (by simp [Tryz.ntmps18]) ?_)
 show awp _ _ (Code.seq _ _) _ _
 rw [show Tryz.f18.results.toList = [.cell 2 27] from rfl]
 repeat' (first | ((first | refine zqh fun K J => ?_ | refine zqs (c0) ?_ | refine zqs (c1) ?_); (simp (disch := omega) only [go_sem, Nat.reduceBEq, ↓reduceIte, Nat.reduceAdd, Nat.reduceLeDiff, z0h])) | refine zqn ?_ | refine zqu (by (simp (disch := omega) only [go_sem, Nat.reduceBEq, ↓reduceIte, Nat.reduceLeDiff]); rfl) rfl ?_ | (refine J _ ?_; clear J K))
 exact z0j (z01 _) (Le.refl _)
theorem le_open (t : T) : LeL [.rsl true 8 [z0h t], .nil, .int .i64 0] (z1a ⟨t, [], []⟩) := by
 unfold z1a
 rw [List.append_nil, zw0]
 exact ⟨Le.refl _, Le.nil 18, Le.refl _, trivial⟩
theorem zwk (t : T) (hs : standsT t = true) (hb : (z0g t).any zw1 = false) :
  OC Tryz.prog 13 [z0h t] [edO ⟨t, [], []⟩] (.tup [.ptr 0 0, .int .i64 0]) := by
 obtain ⟨hz, hc, V⟩ := z27 hs
 have c0 := zni t hz (by omega) (by omega)
 have c1 := zom t (z7h t hz) (by omega)
 have c2 := z44 false (z0g t) (by unfold maxLen; rw [z2m]; omega) (g := 39) (cap := []) zw1 rfl (fun x _ => pc_own x)
 have c3 := z4c t hz
 rw [hs] at c0
 rw [hb] at c2
 refine zec (by simp only [pureD.pureL, z01, Bool.and_self]) rfl (fun o ho => by
  simp only [List.mem_singleton] at ho
  subst ho
  exact z7u _) (z17 [] Tryz.func13 rfl (by decide +kernel) z0e (by decide +kernel) (by simp [Tryz.ntmps13]) ?_)
 show awp _ _ (Code.seq _ _) _ _
 rw [show Tryz.f13.results.toList = [.tmp 2, .tmp 3] from rfl]
 repeat' (first | refine zqj ?_ | ((first | refine z2g (N := 3) rfl fun K J => ?_ | refine zqs (c0) ?_ | refine zqs (c1) ?_ | refine zqs (c2) ?_); (simp (disch := omega) only [go_sem, Nat.reduceBEq, ↓reduceIte, Nat.reduceAdd, Nat.reduceLeDiff, z0h, z2k])) | ((refine zqd _ rfl (fun hc => ?_) (fun hc => ?_)) <;> (first | (cases hc; done) | ((try simp only [] at hc); (try (exfalso; omega))))) | refine zqb ?_ | (refine J _ ?_; clear J K))
 refine z1s fun K J => ?_
 (try (simp (disch := omega) only [go_sem, Nat.reduceBEq, ↓reduceIte, Nat.reduceAdd, Nat.reduceLeDiff])); repeat' (((refine zqs (c3) ?_); (simp (disch := omega) only [go_sem, Nat.reduceBEq, ↓reduceIte, reduceCtorEq, Nat.reduceAdd, Nat.reduceMul, Nat.reduceLeDiff, z0h])))
 refine J _ _ (z8c (b := 1) (e := 74) (by (simp (disch := omega) only [go_sem, Nat.reduceBEq])) (le_open t)) ?_
 clear J K
 repeat' (first | refine zqn ?_ | refine zqu (by (simp (disch := omega) only [go_sem, Nat.reduceBEq]); rfl) rfl ?_)
 refine ⟨fun j => 1 + j, fun i j _ _ h => Nat.add_left_cancel h, ?_, fun j hj => ?_⟩
 ·(simp (disch := omega) only [go_sem, renD])
 ·match j, hj with
  | 0, _ => (simp (disch := omega) only [go_sem, Nat.reduceBEq, edO])
theorem pc_OwnR (i : Idv) : PC Tryz.prog 35 [z0p i] (.bool (zw1 i)) := by
 refine z1c 1 rfl rfl (z17 [] Tryz.func35 rfl (by decide +kernel) z0e (by decide +kernel) (by simp [Tryz.ntmps35]) ?_)
 show awp _ _ (Code.seq _ _) _ _
 repeat' (first | ((refine zqh fun K J => ?_); (simp (disch := omega) only [go_sem, Nat.reduceBEq, ↓reduceIte, reduceCtorEq, Nat.reduceAdd])) | refine zqn ?_ | refine zqu (by (simp (disch := omega) only [go_sem]); rfl) rfl ?_ | (refine J _ ?_; clear J K) | (refine zqf (fun hb => ?_) (fun hb => ?_) <;> (have hb2 := hb; try simp only [z09] at hb2) <;> ((first | have F := eq_false hb2 | have F := eq_true hb2); (simp (disch := omega) only [go_sem, Nat.reduceBEq, ↓reduceIte, reduceCtorEq, Nat.reduceAdd, F]); clear hb F; (try (exfalso; omega)))))
 all_goals (refine z02 ?_; unfold zw1; simp_all)
theorem pc_MayE (t : T) (hz : szB t = true) (hc : cntT t <= 1000000) (V : depT t <= 1000000) : PC Tryz.prog 12 [z0h t] (.bool (!(z0g t).any zw1 && standsT t)) := by
 have c0 := z00b t hz (by omega)
 have c1 := zri t hz (by omega) (by omega)
 have hil := z2m t
 refine z1c 1 (by simp only [pureD.pureL, z01, Bool.and_self]) rfl (z17 [] Tryz.func12 rfl (by decide +kernel) z0e (by decide +kernel) (by simp [Tryz.ntmps12]) ?_)
 show awp _ _ (Code.seq _ _) _ _
 repeat' (first | refine zqj ?_ | ((first | refine zqh fun K J => ?_ | refine zqs (c0) ?_); (simp (disch := omega) only [go_sem, Nat.reduceBEq, ↓reduceIte, Nat.reduceAdd, Nat.reduceLeDiff, z0h, z2k])) | refine zqa ?_ | (refine J _ ?_; clear J K))
 (refine z4t (fun U st => ∃ (i : _), U = (z0g t).length - i /\ st.t 1 = .ptr 0 0 /\ st.t 3 = z2k (z0g t) /\ st.t 4 = .int .i64 i /\ st.H 0 = some (.box 27 (z0b t)) /\ (i <= (z0g t).length) /\ (((z0g t).take i).any zw1 = false)) ?_ ?_); rotate_left; (rintro U st ⟨i, rfl, q1, q3, q4, qH0, qp0, qp1⟩); rotate_left
 ·(refine ⟨_, 0, rfl, ?_⟩); (simp (disch := omega) only [go_sem, Nat.reduceBEq, and_self, Int.natCast_zero, z2k, List.take_zero, List.any_nil])
 by_cases hi : i < (z0g t).length
 ·have c2 := pc_OwnR (z0g t)[i]
  have htk := List.take_succ_eq_append_getElem hi
  by_cases hw : zw1 (z0g t)[i] = true
  ·have ha : (z0g t).any zw1 = true := List.any_eq_true.2 ⟨_, List.getElem_mem hi, hw⟩
   rw [hw] at c2
   repeat' (first | refine zqj ?_ | ((first | refine zqh fun K J => ?_ | refine zqs (c2) ?_); (simp (disch := omega) only [go_sem, Nat.reduceBEq, ↓reduceIte, reduceCtorEq, Nat.reduceAdd, q3, q4, z2k, z0p])) | ((first | refine zqd _ rfl (fun hc => ?_) (fun hc => ?_) | refine zqm _ rfl (fun hc => ?_) (fun hc => ?_)) <;> (first | (cases hc; done) | ((try simp only [z09] at hc); (try (exfalso; omega))))) | refine zqa ?_ | refine zqb ?_ | refine zqn ?_ | refine zqx ?_ | refine z7e ?_ | refine zqo ?_ | refine zqu (by (simp (disch := omega) only [go_sem]); rfl) rfl ?_ | (refine J _ ?_; clear J K))
   exact z02 (by rw [ha]; rfl)
  ·rw [Bool.not_eq_true] at hw
   rw [hw] at c2
   repeat' (first | refine zqj ?_ | ((first | refine zqh fun K J => ?_ | refine zqr fun K J => ?_ | refine zqs (c2) ?_); (simp (disch := omega) only [go_sem, Nat.reduceBEq, ↓reduceIte, reduceCtorEq, Nat.reduceAdd, q3, q4, z2k, z0p])) | ((first | refine zqd _ rfl (fun hc => ?_) (fun hc => ?_) | refine zqm _ rfl (fun hc => ?_) (fun hc => ?_)) <;> (first | (cases hc; done) | ((try simp only [z09] at hc); (try (exfalso; omega))))) | refine zqa ?_ | refine zqb ?_ | refine zqk ?_ | refine zqv ?_ | refine zqy ?_ | (refine J _ ?_; clear J K))
   (refine Exists.intro _ (And.intro ?_ ⟨i + 1, rfl, ?_⟩)); rotate_left; (simp (disch := omega) only [go_sem, Nat.reduceBEq, q1, q3, q4, qH0, true_and, Int.natCast_add, Int.natCast_one, htk, List.any_append, List.any_cons, List.any_nil, hw]); rotate_left
   all_goals first | omega | exact ⟨by omega, qp1⟩
 ·have hie : i = (z0g t).length := by omega
  subst hie
  rw [List.take_length] at qp1
  rw [qp1]
  repeat' (first | refine zqj ?_ | ((first | refine zqh fun K J => ?_ | refine zqs (c1) ?_); (simp (disch := omega) only [go_sem, Nat.reduceBEq, ↓reduceIte, Nat.reduceAdd, Nat.reduceLeDiff, q1, q3, q4, qH0, z2k])) | ((refine zqd _ rfl (fun hc => ?_) (fun hc => ?_)) <;> (((try simp only [z09] at hc); (try (exfalso; omega))))) | refine zqc ?_ | refine zqn ?_ | refine zqv ?_ | refine zqz ?_ | refine zqp ?_ | refine zqu (by (simp (disch := omega) only [go_sem]); rfl) rfl ?_ | (refine J _ ?_; clear J K))
  exact z02 (by simp)
def fewO (o : Deed) : Bool := decide (o.words.length <= 20) && decide (o.label.size <= 40) && zvp o.unit 12 && o.words.all fun w => decide (w.size <= 60)
theorem pc_FewE (l : List Deed) (hl : l.length <= 606627104963) (hw : ∀ o ∈ l, o.words.length <= maxLen /\ o.label.size <= maxLen /\ (∀ w ∈ o.words, w.size <= maxLen) /\ fitB o.unit = true) : PC Tryz.prog 33 [z3f l] (.bool (l.all fewO)) := by
 refine z1c 1 (by simp only [pureD.pureL, zcd, Bool.and_self]) rfl (z17 [] Tryz.func33 rfl (by decide +kernel) z0e (by decide +kernel) (by simp [Tryz.ntmps33]) ?_)
 show awp _ _ (Code.seq _ _) _ _
 repeat' (first | refine zqj ?_ | ((refine zqh fun K J => ?_); (simp (disch := omega) only [go_sem, z3f])) | refine zqa ?_ | (refine J _ ?_; clear J K))
 (refine z4t (fun U st => ∃ (i : _), U = l.length - i /\ st.t 0 = z3f l /\ st.t 3 = .int .i64 i /\ (i <= l.length) /\ ((l.take i).all fewO = true)) ?_ ?_); rotate_left; (rintro U st ⟨i, rfl, q0, q3, qp0, qp1⟩); rotate_left
 ·(refine ⟨_, 0, rfl, ?_⟩); (simp (disch := omega) only [go_sem, Nat.reduceBEq, and_self, Int.natCast_zero, z3f, List.take_zero, List.all_nil])
 by_cases hi : i < l.length
 ·obtain ⟨hw1, hw2, hw3, hw4⟩ := hw l[i] (List.getElem_mem hi)
  have c1 := pc_Few l[i].unit hw4 12 (by decide) (by decide)
  have htk := List.take_succ_eq_append_getElem hi
  unfold maxLen at hw1 hw2
  have hfl : fewO l[i] = false -> false = l.all fewO := fun h => (List.all_eq_false.2 ⟨l[i], List.getElem_mem hi, by rw [h]; simp⟩).symm
  have hxo : ∀ x ∈ l, fewO x = fewO x := fun _ _ => rfl
  repeat' (first | refine zqj ?_ | ((first | refine zqh fun K J => ?_ | refine zqs (c1) ?_); (simp (disch := omega) only [go_sem, Nat.reduceBEq, ↓reduceIte, reduceCtorEq, Nat.reduceAdd, q0, q3, z3f, z5m])) | ((refine zqd _ rfl (fun hc => ?_) (fun hc => ?_)) <;> (first | (cases hc; done) | ((try simp only [z09] at hc); (try (exfalso; omega))))) | refine zqa ?_ | refine zqi ?_ | refine zqb ?_ | refine zqg ?_ | refine zqx ?_ | refine z7e ?_ | refine zqo ?_ | refine zqu (by (simp (disch := omega) only [go_sem]); rfl) rfl ?_ | (refine J _ ?_; clear J K) | (refine zqf (fun hb => ?_) (fun hb => ?_) <;> (have hb2 := hb; try simp only [z09] at hb2) <;> ((first | have F := eq_false hb2 | have F := eq_true hb2); (simp (disch := omega) only [go_sem, Nat.reduceBEq, ↓reduceIte, reduceCtorEq, Nat.reduceAdd, Nat.reduceLeDiff, F, q0, q3, z3f, z5m]); clear hb F; (try (exfalso; omega)))))
  ·exact z02 (hfl (by unfold fewO; rw [hc]; simp))
  ·have d1 : decide (l[i].words.length <= 20) = true := decide_eq_true (by omega)
   have d2 : decide (l[i].label.size <= 40) = true := decide_eq_true (by omega)
   have hfo : fewO l[i] = l[i].words.all fun w => decide (w.size <= 60) := by unfold fewO; rw [d1, d2, hc]; simp
   (refine z4t (fun U st => ∃ (j : _), U = l[i].words.length - j /\ st.t 0 = z3f l /\ st.t 3 = .int .i64 i /\ st.t 4 = .int .i64 j /\ (j <= l[i].words.length) /\ (((l[i].words.take j).all fun w => decide (w.size <= 60)) = true)) ?_ ?_); rotate_left; (rintro U st ⟨j, rfl, p0, p3, p4, pp0, pp1⟩); rotate_left
   ·(refine ⟨_, 0, rfl, ?_⟩); (simp (disch := omega) only [go_sem, Nat.reduceBEq, q0, q3, and_self, Int.natCast_zero, z3f, List.take_zero, List.all_nil])
   by_cases hj : j < l[i].words.length
   ·have hw5 := hw3 l[i].words[j] (List.getElem_mem hj)
    unfold maxLen at hw5
    have htj := List.take_succ_eq_append_getElem hj
    repeat' (first | refine zqj ?_ | ((first | refine zqh fun K J => ?_ | refine zqr fun K J => ?_); (simp (disch := omega) only [go_sem, Nat.reduceBEq, ↓reduceIte, reduceCtorEq, Nat.reduceAdd, p0, p3, p4, z3f, z5m, z1k])) | ((first | refine zqd _ rfl (fun hc => ?_) (fun hc => ?_) | refine zqm _ rfl (fun hc => ?_) (fun hc => ?_)) <;> (((try simp only [z09] at hc); (try (exfalso; omega))))) | refine zqa ?_ | refine zqb ?_ | refine zqk ?_ | refine zqn ?_ | refine zqv ?_ | refine zqx ?_ | refine zqy ?_ | refine z7e ?_ | refine zqo ?_ | refine zqu (by (simp (disch := omega) only [go_sem]); rfl) rfl ?_ | (refine J _ ?_; clear J K))
    ·exact z02 (hfl (by rw [hfo]; exact List.all_eq_false.2 ⟨_, List.getElem_mem hj, by simp; omega⟩))
    ·have d3 : decide (l[i].words[j].size <= 60) = true := decide_eq_true (by omega)
     (refine Exists.intro _ (And.intro ?_ ⟨j + 1, rfl, ?_⟩)); rotate_left; (simp (disch := omega) only [go_sem, Nat.reduceBEq, p0, p3, p4, true_and, and_true, Int.natCast_add, Int.natCast_one, htj, List.all_append, List.all_cons, List.all_nil, d3, pp1]); rotate_left
     all_goals omega
   ·have hje : j = l[i].words.length := by omega
    subst hje
    rw [List.take_length] at pp1
    repeat' (first | refine zqj ?_ | ((first | refine zqh fun K J => ?_ | refine zqr fun K J => ?_); (simp (disch := omega) only [go_sem, Nat.reduceBEq, ↓reduceIte, reduceCtorEq, Nat.reduceAdd, p0, p3, p4, z3f, z5m, z1k])) | ((refine zqd _ rfl (fun hc => ?_) (fun hc => ?_)) <;> (((try simp only [z09] at hc); (try (exfalso; omega))))) | refine zqc ?_ | refine zqv ?_ | refine zqy ?_ | refine zqz ?_ | refine zqp ?_ | (refine J _ ?_; clear J K))
    (refine Exists.intro _ (And.intro ?_ ⟨i + 1, rfl, ?_⟩)); rotate_left; (simp (disch := omega) only [go_sem, Nat.reduceBEq, true_and, Int.natCast_add, Int.natCast_one, p0, p3, htk, List.all_append, List.all_cons, List.all_nil, hfo, pp1]); rotate_left
    all_goals first | omega | exact ⟨by omega, qp1⟩
  ·exact z02 (hfl (by unfold fewO; rw [decide_eq_false (show ¬ l[i].label.size <= 40 by omega)]; simp))
  ·exact z02 (hfl (by unfold fewO; rw [decide_eq_false (show ¬ l[i].words.length <= 20 by omega)]; simp))
 ·have hie : i = l.length := by omega
  subst hie
  rw [List.take_length] at qp1
  rw [qp1]
  repeat' (first | refine zqj ?_ | ((refine zqh fun K J => ?_); (simp (disch := omega) only [go_sem, Nat.reduceBEq, ↓reduceIte, q0, q3, z3f])) | ((refine zqd _ rfl (fun hc => ?_) (fun hc => ?_)) <;> (((try simp only [z09] at hc); (try (exfalso; omega))))) | refine zqc ?_ | refine zqn ?_ | refine zqv ?_ | refine zqz ?_ | refine zqp ?_ | refine zqu (by (simp (disch := omega) only [go_sem]); rfl) rfl ?_ | (refine J _ ?_; clear J K))
  exact z02 rfl
structure Ky where
 k : Int
 o : Deed
def zo3 (p : Ky) : List D := .int .u8 p.k :: z1r p.o
def zs6 (p : Ky) : D := .agg (zo3 p)
def zm1 (l : List Ky) : D := .rsl false 19 (l.map zs6)
theorem zps (p : Ky) : (zo3 p).length = 19 := by unfold zo3; rw [List.length_cons, z4d]
theorem ztz (p : Ky) : pureD (zs6 p) = true := by
 show pureD.pureL (.int .u8 p.k :: z1r p.o) = true
 simp only [pureD.pureL, z7t, pureD, Bool.and_self]
theorem zpt (l : List Ky) : pureD (zm1 l) = true := z0n (f := zs6) ztz l
theorem zu0 (p : Ky) : List.take 18 (List.drop 1 (zo3 p)) = z1r p.o := by
 show List.take 18 (z1r p.o) = _
 exact zln _
theorem pc_fewL (t : T) (hf : fitB t = true) (l : List Ky) (hl : l.length <= 606627104963) (hw : ∀ p ∈ l, p.o.words.length <= maxLen /\ p.o.label.size <= maxLen /\ (∀ w ∈ p.o.words, w.size <= maxLen) /\ fitB p.o.unit = true) :
  PC Tryz.prog 11 [z0h t, zm1 l] (.bool (decide (l.length <= 16) && zvp t 40 && (l.map (·.o)).all fewO)) := by
 have c0 := pc_Few t hf 40 (by decide) (by decide)
 have c1 := pc_FewE (l.map (·.o)) (by rw [List.length_map]; exact hl) (fun o ho => by
  obtain ⟨p, hp, rfl⟩ := List.mem_map.1 ho
  exact hw p hp)
 refine z1c 2 (by simp only [pureD.pureL, z01, zpt, Bool.and_self]) rfl (z17 [7] Tryz.func11 rfl (by decide +kernel) z0e (by decide +kernel) (by simp [Tryz.ntmps11]) ?_)
 show awp _ _ (Code.seq _ _) _ _
 repeat' (first | refine zqj ?_ | ((refine zqh fun K J => ?_); (simp (disch := omega) only [go_sem, Nat.reduceBEq, ↓reduceIte, reduceCtorEq, Nat.reduceAdd, Nat.reduceMul, z0h])) | refine zqa ?_ | (refine J _ ?_; clear J K))
 (refine z4t (fun U st => ∃ (i : _), U = l.length - i /\ st.t 1 = zm1 l /\ st.t 2 = .ptr 0 0 /\ st.t 5 = .osl 1 i /\ st.t 6 = .int .i64 i /\ st.H 0 = some (.box 27 (z0b t)) /\ st.H 1 = some (.row 32 i ((l.take i).flatMap fun p => z1r p.o)) /\ (i <= l.length) /\ (2 <= st.nx)) ?_ ?_); rotate_left; (rintro U st ⟨i, rfl, q1, q2, q5, q6, qH0, qH1, qp0, qp1⟩); rotate_left
 ·(refine ⟨_, 0, rfl, ?_⟩); (simp (disch := omega) only [go_sem, Nat.reduceBEq, Nat.reduceLeDiff, and_self, Int.natCast_zero, List.flatMap_nil, zm1])
 by_cases hi : i < l.length
 ·have htk := List.take_succ_eq_append_getElem hi
  repeat' (first | refine zqj ?_ | ((first | refine zqh fun K J => ?_ | refine zqr fun K J => ?_); (simp (disch := omega) only [go_sem, Nat.reduceBEq, ↓reduceIte, reduceCtorEq, Nat.reduceAdd, Nat.reduceMul, Nat.reduceLeDiff, q1, q5, q6, qH1, zm1, zs6, zps, zu0])) | ((refine zqd _ rfl (fun hc => ?_) (fun hc => ?_)) <;> (((try simp only [z09] at hc); (try (exfalso; omega))))) | refine zqa ?_ | refine zqb ?_ | refine zqv ?_ | refine zqy ?_ | (refine J _ ?_; clear J K))
  (refine Exists.intro _ (And.intro ?_ ⟨i + 1, rfl, ?_⟩)); rotate_left; (simp (disch := omega) only [go_sem, Nat.reduceBEq, q1, q2, q5, q6, qH0, qH1, true_and, Int.natCast_add, Int.natCast_one, List.flatMap_append, List.flatMap_cons, List.flatMap_nil, List.append_nil, htk]); rotate_left
  all_goals first | omega | exact ⟨by omega, by omega⟩
 ·have hie : i = l.length := by omega
  subst hie
  rw [List.take_length] at qH1
  have hfl : (l.flatMap fun p => z1r p.o) = (l.map (·.o)).flatMap z1r := by rw [List.flatMap_map]
  rw [hfl] at qH1
  have u0 : pureD.pureL ((l.map (·.o)).flatMap z1r) = true := zgq _
  have v0 : z23 true 18 l.length ((l.map (·.o)).flatMap z1r) = (l.map (·.o)).map z5m := by
   have := zdf (l.map (·.o))
   rwa [List.length_map] at this
  repeat' (first | refine zqj ?_ | ((refine zqh fun K J => ?_); (simp (disch := omega) only [go_sem, Nat.reduceBEq, ↓reduceIte, q1, q6, zm1])) | ((refine zqd _ rfl (fun hc => ?_) (fun hc => ?_)) <;> (((try simp only [z09] at hc); (try (exfalso; omega))))) | refine zqc ?_ | refine zqp ?_ | (refine J _ ?_; clear J K))
  refine zqz (zji _ (ztb (P := Tryz.prog) (id := 1) (by exact qH1) (by decide +kernel) u0) ?_)
  have hsu : (z0b t).map (zgd Tryz.prog 1 32 l.length ((l.map (·.o)).flatMap z1r)) = z0b t := zgu _ (z05 t)
  have c1' : PC Tryz.prog 33 [.rsl false 18 ((l.map (·.o)).map z5m)] (.bool ((l.map (·.o)).all fewO)) := c1
  rw [List.map_map] at c1'
  repeat' (first | ((first | refine zqh fun K J => ?_ | refine zqs (c0) ?_ | refine zqs (c1') ?_); (simp (disch := omega) only [go_sem, Nat.reduceBEq, ↓reduceIte, q1, zm1, v0])) | refine zqn ?_ | refine zqu (by (simp (disch := omega) only [go_sem]); rfl) rfl ?_ | (refine J _ ?_; clear J K) | (refine zqf (fun hb => ?_) (fun hb => ?_) <;> (have hb2 := hb; try simp only [z09] at hb2) <;> ((first | have F : (_ : Bool) = _ := hb2 | have F := eq_false hb2 | have F := eq_true hb2); (simp (disch := omega) only [go_sem, Nat.reduceBEq, ↓reduceIte, Nat.reduceAdd, Nat.reduceLeDiff, hb, F, q2, q5, qH0, v0, hsu]); clear hb F; (try (exfalso; omega)))))
  ·refine ⟨_, z03 1 rfl, ?_⟩
   rw [decide_eq_true (show l.length <= 16 by omega), show zvp t 40 = true from by assumption]
   exact Le.refl _
  ·refine ⟨_, z03 1 rfl, ?_⟩
   rw [show zvp t 40 = false from by assumption, Bool.and_false, Bool.false_and]
   exact Le.refl _
  ·refine ⟨_, z03 1 rfl, ?_⟩
   rw [decide_eq_false (show ¬ l.length <= 16 by omega), Bool.false_and, Bool.false_and]
   exact Le.refl _
end
end Go.Proofs.YtlfohdkfpdkhhaaGreatDoor
namespace Go.Proofs.YtlfohdkfpdkhhaaGreatDoor.Abs
open Go.RowKit
variable {P : Program}
def Sem (P : Program) (N : Nat) (c : Code) (Q : Exit -> St -> Prop) (st : St) : Prop :=
 ∀ s0 w0 s a w, Fr P N st s a w -> Step s0 w0 s w -> c.wp P (lift P N s0 w0 Q) a w
theorem Sem.walk {N : Nat} {own : List Nat} {c : Code} {Q : Exit -> St -> Prop} {st : St} (hm : P.follows .mixedOrders = true) (hok : z8k N c = true) (h : awp P own c Q st) : Sem P N c Q st :=
 fun _ _ s a w hf hs => z5b hm c Q st s a w hok h hf hs
theorem Sem.seq {N : Nat} {x y : Code} {Q : Exit -> St -> Prop} {st : St} (h : Sem P N x (zx0 (fun st => Sem P N y Q st) Q) st) : Sem P N (.seq x y) Q st := by
 intro s0 w0 s a w hf hs
 refine wp_seq (wp_mono (h s0 w0 s a w hf hs) ?_)
 rintro e a' w' ⟨st', s', hq, hf', hs'⟩
 cases e with
 | normal => exact hq s0 w0 s' a' w' hf' hs'
 | exit id => exact ⟨st', s', hq, hf', hs'⟩
 | goto l => exact ⟨st', s', hq, hf', hs'⟩
 | ret => exact ⟨st', s', hq, hf', hs'⟩
 | panic ch => exact ⟨st', s', hq, hf', hs'⟩
 | outgrown => exact ⟨st', s', hq, hf', hs'⟩
theorem Sem.cond {N : Nat} {c : Operand} {x y : Code} {Q : Exit -> St -> Prop} {st : St} (t : Bool) (ht : st.ev c = .bool t) (h1 : t = true -> Sem P N x Q st) (h2 : t = false -> Sem P N y Q st) : Sem P N (.cond c x y) Q st := by
 intro s0 w0 s a w hf hs
 have hv := hf.ev c
 rw [ht] at hv
 simp only [rel] at hv
 exact wp_cond_split hv (fun e => h1 e s0 w0 s a w hf hs) (fun e => h2 e s0 w0 s a w hf hs)
section
variable {st : St} {dst : Option Nat} {n : FuncId} {cap args : List D} {g : List Oper -> (St -> Prop) -> St -> Prop} {rest : List Oper} {K : St -> Prop}
end
end Go.Proofs.YtlfohdkfpdkhhaaGreatDoor.Abs
namespace Go.Proofs.YtlfohdkfpdkhhaaGreatDoor.Abs
open Go.RowKit
variable {P : Program}
end Go.Proofs.YtlfohdkfpdkhhaaGreatDoor.Abs
namespace Go.Proofs.YtlfohdkfpdkhhaaGreatDoor
section
open Abs Facts Tr
attribute [local irreducible] awp
set_option maxRecDepth 100000
namespace Tr
end Tr
end
section
open Abs Facts
attribute [local irreducible] awp
end
section
open Abs Facts Tr
attribute [local irreducible] awp
set_option maxRecDepth 100000
end
section
open Abs Facts Tr
structure OpOK (o : Deed) : Prop where
 few : fewO o = true
 at1 : -9223372036854775808 <= o.at_
 at2 : o.at_ <= 9223372036854775807
theorem OpOK.cnt {o : Deed} (h : OpOK o) : szB o.unit = true /\ cntT o.unit <= 12 /\ depT o.unit <= 20 := by
 have h1 := h.few
 unfold fewO at h1
 simp only [Bool.and_eq_true] at h1
 obtain ⟨a, b, c⟩ := few_sz (t := o.unit) (most := 12) (by decide) (by decide) h1.1.2
 exact ⟨a, by omega, c⟩
theorem OpOK.sz {o : Deed} (h : OpOK o) : OpSz o := by
 obtain ⟨a, b, c⟩ := h.cnt
 have h1 := h.few
 unfold fewO at h1
 simp only [Bool.and_eq_true, decide_eq_true_eq, List.all_eq_true] at h1
 exact ⟨by omega, fun w hw => by have := h1.2 w hw; omega, by omega, a, by omega, by omega, h.at1, h.at2⟩
structure RdO (o : Deed) : Prop where
 ws : o.words.length <= maxLen
 lb : o.label.size <= maxLen
 wt : ∀ w ∈ o.words, w.size <= maxLen
 un : fitB o.unit = true
 at1 : -9223372036854775808 <= o.at_
 at2 : o.at_ <= 9223372036854775807
theorem RdO.use {o : Deed} (h : RdO o) : o.words.length <= maxLen /\ o.label.size <= maxLen /\ (∀ w ∈ o.words, w.size <= maxLen) /\ fitB o.unit = true := ⟨h.ws, h.lb, h.wt, h.un⟩
theorem zxo {u : T} {l : List Ky} (hl : ∀ q ∈ l, RdO q.o) (h : (decide (l.length <= 16) && zvp u 40 && (l.map (·.o)).all fewO) = true) : szB u = true /\ cntT u <= 40 /\ depT u <= 20 /\ l.length <= 16 /\ ∀ p ∈ l, OpOK p.o := by
 simp only [Bool.and_eq_true, decide_eq_true_eq, List.all_eq_true] at h
 obtain ⟨⟨h1, h2⟩, h3⟩ := h
 obtain ⟨a, b, c⟩ := few_sz (t := u) (most := 40) (by decide) (by decide) h2
 exact ⟨a, by omega, c, h1, fun p hp => ⟨h3 _ (List.mem_map.2 ⟨p, hp, rfl⟩), (hl p hp).at1, (hl p hp).at2⟩⟩
structure Live (n : Nat) (s : Ses) : Prop where
 ok : SesOK s
 ops : ∀ o ∈ s.dn ++ s.un, OpOK o
 len : s.dn.length + s.un.length <= n
theorem add_le {l : List Deed} (h : ∀ o ∈ l, OpOK o) : z3e l <= 12 * l.length := by
 induction l with
 | nil => simp [z3e]
 | cons o l ih =>
  have h1 := ih fun q hq => h q (List.mem_cons_of_mem _ hq)
  have h2 := (h o List.mem_cons_self).cnt.2.1
  have h3 : zs4 o <= cntT o.unit := by unfold zs4; split <;> omega
  unfold z3e at h1 ⊢
  rw [List.map_cons, List.sum_cons, List.length_cons]; omega
theorem Live.opsD {n : Nat} {s : Ses} (h : Live n s) : ∀ o ∈ s.dn, OpOK o := fun o ho => h.ops o (List.mem_append_left _ ho)
theorem Live.add {n : Nat} {s : Ses} (h : Live n s) : z3e s.dn <= 12 * n := by
 have h1 := add_le h.opsD
 have := h.len
 omega
theorem Live.mono {n m : Nat} {s : Ses} (h : Live n s) (hm : n <= m) : Live m s := ⟨h.ok, h.ops, Nat.le_trans h.len hm⟩
theorem zsp {t : T} (h : standsT t = true) : Live 0 ⟨t, [], []⟩ := ⟨⟨h, zl1 t⟩, fun o ho => (by cases ho), by simp⟩
theorem Live.apply {n : Nat} {s : Ses} (h : Live n s) {o : Deed} (ho : OpOK o) : Live (n + 1) (z1l s o).2 := by
 refine ⟨zzm h.ok o, fun q hq => ?_, ?_⟩
 ·unfold z1l at hq
  split at hq
  ·simp only [List.append_nil, List.mem_append, List.mem_singleton] at hq
   rcases hq with hq | rfl
   ·exact h.opsD q hq
   ·exact ho
  ·exact h.ops q hq
 ·have := h.len
  unfold z1l
  split
  ·simp; omega
  ·show s.dn.length + s.un.length <= _; omega
theorem zp7 (s : Ses) : (za8 s).2.base = s.base /\ (za8 s).2.dn ++ (za8 s).2.un = s.dn ++ s.un := by
 unfold za8
 split
 ·exact ⟨rfl, rfl⟩
 ·rename_i o he
  refine ⟨rfl, ?_⟩
  obtain ⟨l, hl⟩ := List.getLast?_eq_some_iff.1 he
  show s.dn.dropLast ++ o :: s.un = _
  rw [hl, List.dropLast_concat, List.append_assoc]; rfl
theorem zp8 (s : Ses) : (za9 s).2.base = s.base /\ (za9 s).2.dn ++ (za9 s).2.un = s.dn ++ s.un := by
 unfold za9
 split
 ·exact ⟨rfl, rfl⟩
 ·rename_i o l he
  refine ⟨rfl, ?_⟩
  show (s.dn ++ [o]) ++ l = _
  rw [he, List.append_assoc]; rfl
theorem Live.undo {n : Nat} {s : Ses} (h : Live n s) : Live n (za8 s).2 := by
 obtain ⟨_, h2⟩ := zp7 s
 refine ⟨undo_ok h.ok, fun q hq => h.ops q (by rw [<- h2]; exact hq), ?_⟩
 have h3 := h.len
 have h4 := congrArg List.length h2
 simp only [List.length_append] at h4
 omega
theorem Live.redo {n : Nat} {s : Ses} (h : Live n s) : Live n (za9 s).2 := by
 obtain ⟨_, h2⟩ := zp8 s
 refine ⟨redo_ok h.ok, fun q hq => h.ops q (by rw [<- h2]; exact hq), ?_⟩
 have h3 := h.len
 have h4 := congrArg List.length h2
 simp only [List.length_append] at h4
 omega
def znl (s : Ses) (p : Ky) : Ses := if p.k = 0 then (z1l s p.o).2 else if p.k = 1 then (za8 s).2 else if p.k = 2 then (za9 s).2 else s
theorem Live.press {n : Nat} {s : Ses} (h : Live n s) {p : Ky} (ho : OpOK p.o) : Live (n + 1) (znl s p) := by
 unfold znl
 split
 ·exact h.apply ho
 ·split
  ·exact h.undo.mono (by omega)
  ·split
   ·exact h.redo.mono (by omega)
   ·exact h.mono (by omega)
def runK (s : Ses) (l : List Ky) : Ses := l.foldl znl s
theorem zsq (s : Ses) (l : List Ky) (p : Ky) : runK s (l ++ [p]) = znl (runK s l) p := by unfold runK; rw [List.foldl_append]; rfl
theorem Live.run {s : Ses} : ∀ (l : List Ky) {n : Nat}, Live n s -> (∀ p ∈ l, OpOK p.o) -> Live (n + l.length) (runK s l) := by
 intro l
 refine zhu (p := fun l => ∀ {n : Nat}, Live n s -> (∀ p ∈ l, OpOK p.o) -> Live (n + l.length) (runK s l)) (fun h _ => h) (fun l o ih n h hl => ?_) l
 rw [zsq, List.length_append, List.length_singleton]
 have h1 := ih h fun p hp => hl p (List.mem_append_left _ hp)
 exact h1.press (hl o (by simp))
section
variable {n : Nat} {s : Ses} (h : Live n s) (hn : n <= 100)
include h hn
theorem Live.trees : ∀ t ∈ trees s.base (s.dn ++ s.un), szB t = true := by
 intro t ht
 unfold Tr.trees at ht
 obtain ⟨k, _, rfl⟩ := List.mem_map.1 ht
 exact (z27 (z9c h.ok.st (zvx h.ok.ok k))).1
theorem Live.tcApply {o : Deed} (ho : OpOK o) (k : Nat) : TC Tryz.prog 15 [.ptr k 0, z5m o] k (edO s) (edO (z1l s o).2) (.int .i64 (z1l s o).1) :=
 zek s h.ok.st (zvy h.ok.ok) (fun q hq => (h.opsD q hq).sz) (by have := h.add; omega) (by have := h.len; omega) (by have := h.len; omega) o ho.sz k
theorem Live.tcUndo (k : Nat) : TC Tryz.prog 21 [.ptr k 0] k (edO s) (edO (za8 s).2) (.bool (za8 s).1) :=
 tc_Undo s (by have := h.len; omega) (by have := h.len; omega) k
theorem Live.tcRedo (k : Nat) : TC Tryz.prog 22 [.ptr k 0] k (edO s) (edO (za9 s).2) (.bool (za9 s).1) :=
 tc_Redo s (by have := h.len; omega) (by have := h.len; omega) k
theorem Live.rcDraft (k : Nat) (H : HM) (nx : Nat) (hk : k < nx) (hH : H k = some (edO s)) : RC Tryz.prog 18 [.ptr k 0] H nx (z0h s.draft) :=
 zdx (zj1 s h.ok.draft) (zdc _) k H nx hk hH
end
end
end Go.Proofs.YtlfohdkfpdkhhaaGreatDoor
namespace Go.Proofs.YtlfohdkfpdkhhaaGreatDoor.Glue
open Go.ChangeShapes Go.WideShapes Go.ChangeAt Go.RowKit Abs Facts Tr
set_option maxRecDepth 100000
def S51 : List TypeId := [4, 3, 5, 9, 28, 23, 48, 50, 24, 27, 25, 32, 34, 35]
theorem zty : zfu Tryz.prog S51 = true := by decide +kernel
section
variable {H : Type} {enc : TypeId × Value -> H} {W : World} {base : Nat} {r : Reach} {b0 : Nat} {spare : Nat -> Bool} {held : Bool} {v : Value} {d : DataW H} {p : List MemPlace}
theorem rd_strs (hv : Value.okWide Tryz.prog W r b0 28 v) (h : DataW.Trod enc Tryz.prog W base spare held 28 v d p) : ∃ l : List ByteArray, (l.length <= maxLen /\ ∀ s ∈ l, s.size <= maxLen) /\ rel (z6l W) (z1k l) v := by
 obtain ⟨a, n, c, rfl⟩ := okWide_slice Tryz.underlying28 hv
 obtain ⟨m, d', ht, hr⟩ := one_arg zty (by decide) zhw rfl h
 obtain ⟨l, he, h1, h2⟩ := zrl Tryz.underlying28 Tryz.underlying9 zeo ht
 cases he
 exact ⟨l, ⟨h1, h2⟩, hr⟩
end
end Go.Proofs.YtlfohdkfpdkhhaaGreatDoor.Glue
namespace Go.Proofs.YtlfohdkfpdkhhaaGreatDoor
section
open Abs Facts Tr Go.Lib Go.RowKit
namespace Abs
variable {P : Program}
end Abs
end
section
open Abs Facts Tr
attribute [local irreducible] awp
set_option maxRecDepth 100000
namespace Tr
end Tr
end
section
open Abs Facts Tr
attribute [local irreducible] awp
set_option maxRecDepth 100000
section
variable {n : Nat} {s : Ses} (h : Live n s) (hn : n <= 100)
include h hn
end
end
section
open Abs Facts Tr
attribute [local irreducible] awp
set_option maxRecDepth 100000
namespace Tr
def exB : T := .mk Idv.zero 0 ByteArray.empty [] [] [.mk ⟨1, 0, 1⟩ 2 ⟨#[49]⟩ [] [⟨⟨#[97]⟩, ⟨1, 0, 0⟩⟩, ⟨⟨#[98]⟩, ⟨1, 0, 1⟩⟩] []]
def exO : Deed := ⟨0, 0, ⟨1, 0, 1⟩, Idv.zero, [⟨#[99]⟩, ⟨#[98]⟩], ByteArray.empty, T.zero⟩
def exB2 : T := .mk Idv.zero 0 ByteArray.empty [] [] [.mk ⟨1, 0, 1⟩ 2 ⟨#[49]⟩ [] [⟨⟨#[99]⟩, Idv.zero⟩, ⟨⟨#[98]⟩, ⟨1, 0, 1⟩⟩] []]
end Tr
theorem zuz : PC Tryz.prog 31 [] (z0h exB) := by
 refine z1c 3 rfl (z01 _) (z17 [] Tryz.func31 rfl (by decide +kernel) z0e (by decide +kernel) (by simp [Tryz.ntmps31]) ?_)
 show awp _ _ (Code.seq _ _) _ _
 rw [show Tryz.f31.results.toList = [.cell 0 27] from rfl]
 repeat' (first | ((refine zqh fun K J => ?_); (simp (disch := omega) only [go_sem, Nat.reduceBEq, ↓reduceIte, reduceCtorEq, Nat.reduceAdd, Nat.reduceMul, Nat.reduceLeDiff])) | refine zqn ?_ | refine zqu (by (simp (disch := omega) only [go_sem, Nat.reduceBEq, ↓reduceIte, Nat.reduceAdd, Nat.reduceLeDiff]); rfl) rfl ?_ | (refine J _ ?_; clear J K))
 refine z0j ?_ ?_
 ·rfl
 rw [z0h, z0s]
 refine Le.agg ⟨Le.refl _, Le.refl _, Le.refl _, Le.refl _, Le.refl _, Le.nil 4, Le.nil 4, Le.rslL ⟨?_, trivial⟩, trivial⟩
 rw [z0h, z0s]
 exact Le.agg ⟨Le.refl _, Le.refl _, Le.refl _, Le.refl _, Le.refl _, Le.nil 4, Le.rsl, Le.nil 8, trivial⟩
theorem ex_run : doE exB exO 0 = 0 /\ doT exB exO 0 = exB2 := by decide +kernel
theorem AC_le {P : Program} {f : FuncId} {ds es : List D} {H : HM} {nx : Nat} {K : D -> HM -> Nat -> Prop} (h : AC P f es H nx K) (hl : LeL ds es) : AC P f ds H nx K :=
 ⟨h.1, fun s w vs h1 h2 h3 h4 => h.2 s w vs h1 h2 h3 (z6b hl h4)⟩
theorem zz1 {P : Program} {f : FuncId} {ds es : List D} {k : Nat} {o o' : HObj} {r : D} (h : TC P f es k o o' r) (hl : LeL ds es) : TC P f ds k o o' r := fun H nx a b => AC_le (h H nx a b) hl
theorem idx_0 (a : D) (l : List D) : zs7 (a :: l) 0 = some a := by unfold zs7; simp
theorem idx_1 (a b : D) (l : List D) : zs7 (a :: b :: l) 1 = some b := by unfold zs7; simp; omega
theorem zr2 : PC Tryz.prog 10 [] (.bool true) := by
 obtain ⟨x1, x2⟩ := ex_run
 have hst : standsT exB = true := by decide +kernel
 have hz : szB exB = true := (z27 hst).1
 have hop : OpOK exO := ⟨by decide +kernel, by decide, by decide⟩
 have l0 : Live 0 ⟨exB, [], []⟩ := zsp hst
 have ap : z1l ⟨exB, [], []⟩ exO = (0, ⟨exB, [exO], []⟩) := by
  unfold z1l
  rw [if_pos (show doE (Ses.draft ⟨exB, [], []⟩) exO (z3e []) = 0 from x1)]; rfl
 have l1 : Live 1 ⟨exB, [exO], []⟩ := by have := l0.apply hop; rwa [ap] at this
 have l2 : Live 1 ⟨exB, [], [exO]⟩ := l1.undo
 have d1 : Ses.draft ⟨exB, [exO], []⟩ = exB2 := x2
 have c1 := zuz
 have c2 := zwk exB hst (by decide +kernel)
 have c3 := zz1 (ds := [.ptr 0 0, .agg [.int .i64 0, .int .i64 0, .int .i64 1, .int .i64 0, .int .i64 1, .int .i64 0, .int .i64 0, .int .i64 0, .rsl true 1 [.str ⟨#[99]⟩, .str ⟨#[98]⟩], .str ByteArray.empty, .int .i64 0, .int .i64 0, .int .i64 0, .int .i64 0, .str ByteArray.empty, .nil, .nil, .nil]]) (l0.tcApply (by omega) hop 0) (by
  refine ⟨Le.refl _, ?_, trivial⟩
  rw [z5m, z7a]
  exact Le.agg ⟨Le.refl _, Le.refl _, Le.refl _, Le.refl _, Le.refl _, Le.refl _, Le.refl _, Le.refl _, Le.rsl, Le.refl _, Le.refl _, Le.refl _, Le.refl _, Le.refl _, Le.refl _, Le.nil 4, Le.nil 4, Le.nil 8, trivial⟩)
 rw [ap] at c3
 have c4 := l1.rcDraft (by omega) 0
 rw [d1] at c4
 have c5 := l1.tcUndo (by omega) 0
 rw [show za8 ⟨exB, [exO], []⟩ = (true, ⟨exB, [], [exO]⟩) from rfl] at c5
 have c6 := l2.rcDraft (by omega) 0
 rw [show Ses.draft ⟨exB, [], [exO]⟩ = exB from rfl] at c6
 have c7 := zst exB hz exB hz
 rw [decide_eq_true rfl] at c7
 have c8 := l2.tcRedo (by omega) 0
 rw [show za9 ⟨exB, [], [exO]⟩ = (true, ⟨exB, [exO], []⟩) from rfl] at c8
 have c10 := l1.tcRedo (by omega) 0
 rw [show za9 ⟨exB, [exO], []⟩ = (false, ⟨exB, [exO], []⟩) from rfl] at c10
 have hB2 : z0b exB2 = [.int .i64 0, .int .i64 0, .int .i64 0, .int .i64 0, .str ByteArray.empty, .rsl false 4 [], .rsl false 4 [], .rsl false 8 [.agg [.int .i64 1, .int .i64 0, .int .i64 1, .int .i64 2, .str ⟨#[49]⟩, .rsl false 4 [], .rsl false 4 [.agg [.str ⟨#[99]⟩, .int .i64 0, .int .i64 0, .int .i64 0], .agg [.str ⟨#[98]⟩, .int .i64 1, .int .i64 0, .int .i64 1]], .rsl false 8 []]]] := rfl
 refine z1c 1 rfl rfl (z17 [] Tryz.func10 rfl (by decide +kernel) z0e (by decide +kernel) (by simp [Tryz.ntmps10]) ?_)
 show awp _ _ (Code.seq _ _) _ _
 repeat' (first | refine zqj ?_ | ((first | refine zqh fun K J => ?_ | refine zqs (c1) ?_ | refine z5s (c2) ?_ | ((refine z53 (c3) ?_ ?_ ?_); (focus ((simp (disch := omega) only [go_sem]); done)); (focus (((simp (disch := omega) only [go_sem, Nat.reduceLT]); done)))) | ((refine z0x (c4 _ _ ?_ ?_) ?_); (focus (((simp (disch := omega) only [go_sem, Nat.reduceLT]); done))); (focus ((simp (disch := omega) only [go_sem]); done))) | ((refine z53 (c5) ?_ ?_ ?_); (focus ((simp (disch := omega) only [go_sem]); done)); (focus (((simp (disch := omega) only [go_sem, Nat.reduceLT]); done)))) | ((refine z0x (c6 _ _ ?_ ?_) ?_); (focus (((simp (disch := omega) only [go_sem, Nat.reduceLT]); done))); (focus ((simp (disch := omega) only [go_sem]); done))) | refine zqs (c7) ?_ | ((refine z53 (c8) ?_ ?_ ?_); (focus ((simp (disch := omega) only [go_sem]); done)); (focus (((simp (disch := omega) only [go_sem, Nat.reduceLT]); done)))) | ((refine z53 (c10) ?_ ?_ ?_); (focus ((simp (disch := omega) only [go_sem]); done)); (focus (((simp (disch := omega) only [go_sem, Nat.reduceLT]); done))))); (simp (disch := omega) only [go_sem, Nat.reduceBEq, ↓reduceIte, reduceCtorEq, Nat.reduceAdd, Nat.reduceLeDiff, z0h, hB2, idx_0])) | ((refine zqd _ rfl (fun hc => ?_) (fun hc => ?_)) <;> (first | (cases hc; done) | ((try simp only [] at hc); (try (exfalso; omega))))) | refine zqb ?_ | refine zqn ?_ | refine zqu (by (simp (disch := omega) only [go_sem]); rfl) rfl ?_ | (refine J _ ?_; clear J K) | (refine zqf (fun hb => ?_) (fun hb => ?_) <;> (have hb2 := hb; try simp only [z09] at hb2) <;> ((first | have F := eq_false hb2 | have F := eq_true hb2); (simp (disch := omega) only [go_sem, Nat.reduceBEq, ↓reduceIte, reduceCtorEq, Nat.reduceAdd, Nat.reduceLeDiff, F, idx_0, idx_1]); clear hb F; (try (exfalso; omega)))))
 all_goals exact z02 rfl
def z8r (t : T) : Ses := ⟨t, [], []⟩
end
section
open Abs Facts Tr
namespace Tr
theorem zm7 {α : Type} [DecidableEq α] (a : List α) (i : Nat) : Lcs.at_ a a i i = a.length - i := by
 unfold Lcs.at_; rw [Lcs.len_self, List.length_drop]
theorem zu2 {α : Type} [DecidableEq α] {a : List α} {i : Nat} (hi : i < a.length) : Lcs.next a a i i = (i, i) := by
 unfold Lcs.next
 have hg : Lcs.good a a (Lcs.at_ a a i i) i i = true := by
  unfold Lcs.good
  rw [zm7, zm7, decide_eq_true rfl, Bool.true_and]
  exact decide_eq_true (by omega)
 rw [Lcs.search_step _ _ _ _ _ hi, Lcs.inRow_step _ _ _ _ _ hi, if_pos hg]
 rfl
theorem zfa {α : Type} [DecidableEq α] {a : List α} : ∀ (n i : Nat), i + n = a.length -> Lcs.pairsF a a n i i = (List.range' i n).map fun j => (j, j)
 | 0, _, _ => rfl
 | n + 1, i, h => by
  rw [Lcs.pairsF, zu2 (by omega), List.range'_succ, List.map_cons, zfa n (i + 1) (by omega)]
theorem zpv {α : Type} [DecidableEq α] {a : List α} (h : a.length <= 256) : Lcs.pairs a a = (List.range a.length).map fun j => (j, j) := by
 unfold Lcs.pairs Lcs.pairsFrom
 rw [if_neg (by omega), zm7, zfa _ _ (by omega), List.range_eq_range', Nat.sub_zero]
theorem zpw {was : List Wd} (h : was.length <= 256) : z6n was (was.map (·.text)) = was := by
 have key : ∀ (init : List Wd), init.length = was.length -> ∀ k, k <= was.length -> ((List.range k).map fun j => (j, j)).foldl (zsx was) init = was.take k ++ init.drop k := by
  intro init hl k
  induction k with
  | zero => intro _; simp
  | succ k ih =>
   intro hk
   rw [List.range_succ, List.map_append, List.foldl_append, ih (by omega)]
   simp only [List.map_cons, List.map_nil, List.foldl_cons, List.foldl_nil]
   unfold zsx
   rw [List.getElem?_eq_getElem (show k < was.length by omega)]
   simp only
   rw [List.take_succ_eq_append_getElem (show k < was.length by omega), List.append_assoc]
   have V : init.drop k = init[k]'(by omega) :: init.drop (k + 1) := List.drop_eq_getElem_cons (by omega)
   rw [V, List.set_append_right _ _ (by rw [List.length_take]; omega)]
   rw [show k - (was.take k).length = 0 from by rw [List.length_take]; omega]
   rfl
 unfold z6n
 rw [zpv (by simpa using h), List.length_map]
 rw [key _ (by simp) _ (Nat.le_refl _), List.take_length, List.drop_of_length_le (by simp), List.append_nil]
theorem zie (q : T) : q.setWords q.words = q := by cases q; rfl
theorem zu3 {u : T} {id : Idv} (hs : standsT u = true) (hm : id ∈ z0g u) : z1y id (fun q => q.setWords (z06 id u).1.words) u = u := by
 obtain ⟨C, e, hq, hpre, _⟩ := focus id u hm
 generalize (z06 id u).1 = q at e hq
 have hpost : id ∉ z3g C := (z2q (x := q) (by rw [<- e]; exact z1f hs) (hq ▸ z26 q)).2
 conv => lhs; rw [e]
 rw [z40 (fun x => x.setWords q.words) hq C hpre hpost, zie, <- e]
theorem zyg {u : T} {id : Idv} (l : List Wd) (hs : standsT u = true) (hm : id ∈ z0g u) : z06 id (z1y id (fun q => q.setWords l) u) = ((z06 id u).1.setWords l, true) := by
 obtain ⟨C, e, hq, hpre, _⟩ := focus id u hm
 generalize (z06 id u).1 = q at e hq
 have hpost : id ∉ z3g C := (z2q (x := q) (by rw [<- e]; exact z1f hs) (hq ▸ z26 q)).2
 rw [e, z40 (fun x => x.setWords l) hq C hpre hpost]
 have h2 : id ∈ z0g (q.setWords l) := by have := z26 (q.setWords l); rwa [show (q.setWords l).id = id from hq] at this
 rw [z7f h2 C hpre]
 exact z2u hq
end Tr
end
section
open Abs Facts Tr
attribute [local irreducible] awp
set_option maxRecDepth 100000
def zax (id : Idv) (l : List ByteArray) : Deed := ⟨0, 0, id, Idv.zero, l, ByteArray.empty, T.zero⟩
theorem ztf {id : Idv} {l : List ByteArray} (h1 : l.length <= 1000000) (h2 : ∀ w ∈ l, w.size <= 1000000) : OpSz (zax id l) :=
 ⟨h1, h2, (show ByteArray.empty.size <= 1000000 by decide), zwn, (show cntT T.zero <= 1000000 by decide +kernel), (show depT T.zero <= 1000000 by decide +kernel), (show (-9223372036854775808 : Int) <= 0 by decide), (show (0 : Int) <= 9223372036854775807 by decide)⟩
theorem zlt (id : Idv) (l : List ByteArray) : Le (.agg [.int .i64 0, .int .i64 0, .int .i64 id.act, .int .i64 id.item, .int .i64 id.n, .int .i64 0, .int .i64 0, .int .i64 0, .rsl false 1 (l.map D.str), .str ByteArray.empty, .int .i64 0, .int .i64 0, .int .i64 0, .int .i64 0, .str ByteArray.empty, .nil, .nil, .nil]) (z5m (zax id l)) := by
 rw [z5m, z7a]
 exact Le.agg ⟨Le.refl _, Le.refl _, Le.refl _, Le.refl _, Le.refl _, Le.refl _, Le.refl _, Le.refl _, Le.refl _, Le.refl _, Le.refl _, Le.refl _, Le.refl _, Le.refl _, Le.refl _, Le.nil 4, Le.nil 4, Le.nil 8, trivial⟩
theorem le_setK (l : List ByteArray) : Le (.agg [.int .u8 0, .int .i64 0, .int .i64 0, .int .i64 0, .int .i64 0, .int .i64 0, .int .i64 0, .int .i64 0, .int .i64 0, .rsl false 1 (l.map D.str), .str ByteArray.empty, .int .i64 0, .int .i64 0, .int .i64 0, .int .i64 0, .str ByteArray.empty, .nil, .nil, .nil]) (zs6 ⟨0, zax Idv.zero l⟩) := by
 show Le _ (.agg (.int .u8 0 :: z1r (zax Idv.zero l)))
 rw [z7a]
 exact Le.agg ⟨Le.refl _, Le.refl _, Le.refl _, Le.refl _, Le.refl _, Le.refl _, Le.refl _, Le.refl _, Le.refl _, Le.refl _, Le.refl _, Le.refl _, Le.refl _, Le.refl _, Le.refl _, Le.refl _, Le.nil 4, Le.nil 4, Le.nil 8, trivial⟩
theorem zy4 {l : List Wd} {n : Nat} (h : ∀ w ∈ l, w.text.size <= n) : ∀ s ∈ l.map (·.text), s.size <= n := fun s hs => by
 obtain ⟨w, hw, rfl⟩ := List.mem_map.1 hs
 exact h w hw
def zwy (w : Wd) (l : List Wd) : Bool := decide (w.by_ = Idv.zero) || l.any fun v => decide (v = w)
theorem zy5 (w : Wd) : zwy w [] = decide (w.by_ = Idv.zero) := by unfold zwy; simp
theorem ztg (w v : Wd) (l : List Wd) : zwy w (l ++ [v]) = (zwy w l || decide (v = w)) := by unfold zwy; simp [Bool.or_assoc]
theorem metW_in {w : Wd} {l : List Wd} (h : w.by_ = Idv.zero \/ w ∈ l) : zwy w l = true := by
 unfold zwy
 rcases h with h | h
 ·rw [decide_eq_true h]; rfl
 ·rw [List.any_eq_true.2 ⟨w, h, by simp⟩, Bool.or_true]
theorem zph {u : T} (hs : standsT u = true) {id : Idv} (hm : id ∈ z0g u) {O : Deed} (hO : O = zax id ((z06 id u).1.words.map (·.text))) (o1 : OpSz O) :
  ∃ e s1, z1l (z8r u) O = (e, s1) /\ s1.base = u /\ s1.draft = u /\ z3e s1.dn = 0 /\ OKrun u s1.dn /\ (∀ o ∈ s1.dn, OpSz o) /\ s1.dn.length <= 1 /\ s1.un = [] := by
 by_cases he : doE u O 0 = 0
 ·have hwd : z3w u O = z6n (z06 id u).1.words ((z06 id u).1.words.map (·.text)) := by rw [hO]; rfl
  have V : doT u O 0 = u := by
   have hw : (z3w u O).length <= 256 := by rw [hO] at he ⊢; exact (zbs he).2.2.2.2
   rw [hwd, z8u, List.length_map] at hw
   rw [zpw hw] at hwd
   have : doT u O 0 = z1y id (fun q => q.setWords (z3w u O)) u := by rw [hO]; rfl
   rw [this, hwd]; exact zu3 hs hm
  have hi : zs4 O = 0 := by rw [hO]; rfl
  refine ⟨0, ⟨u, [O], []⟩, if_pos he, rfl, V, ?_, zvw (zl1 u) he, fun o ho => ?_, Nat.le_refl _, rfl⟩
  ·show ([O].map zs4).sum = 0
   simp [hi]
  rw [List.mem_singleton] at ho
  rw [ho]; exact o1
 ·exact ⟨_, z8r u, if_neg he, rfl, rfl, rfl, zl1 u, fun o ho => (by cases ho), Nat.zero_le _, rfl⟩
theorem zy6 (u : T) (hfu : fitB u = true) (id : Idv) (l : List ByteArray) (hl : l.length <= maxLen) (hw : ∀ s ∈ l, s.size <= maxLen) : PC Tryz.prog 3 [z0h u, z0p id, z1k l] (.bool true) := by
 have c0 := zr2
 have hro : ∀ q ∈ ([⟨0, zax Idv.zero l⟩] : List Ky), RdO q.o := fun q hq => by
  simp only [List.mem_singleton] at hq
  subst hq
  exact ⟨hl, (show ByteArray.empty.size <= maxLen by decide), hw, (show fitB T.zero = true by decide +kernel), (show (-9223372036854775808 : Int) <= 0 by decide), (show (0 : Int) <= 9223372036854775807 by decide)⟩
 have c1 := (pc_fewL u hfu [⟨0, zax Idv.zero l⟩] (show 1 <= 606627104963 by decide) fun p hp => (hro p hp).use).le (ds := [z0h u, .rsl true 19 [.agg [.int .u8 0, .int .i64 0, .int .i64 0, .int .i64 0, .int .i64 0, .int .i64 0, .int .i64 0, .int .i64 0, .int .i64 0, .rsl false 1 (l.map D.str), .str ByteArray.empty, .int .i64 0, .int .i64 0, .int .i64 0, .int .i64 0, .str ByteArray.empty, .nil, .nil, .nil]]])
  (by simp only [pureD.pureL, z01, pureD, z0n (f := D.str) (fun _ => rfl) l, Bool.and_self]) ⟨Le.refl _, Le.rslL ⟨le_setK l, trivial⟩, trivial⟩
 refine z1c 1 (by simp only [pureD.pureL, z01, z2s, pureD, z0p, z0d, Bool.and_self]) rfl (z17 [8000003, 4000069, 9000066, 5000087, 5000089, 3000088, 600069, 900002, 600064, 900001] Tryz.func3 rfl (by decide +kernel) z0e (by decide +kernel) (by simp [Tryz.ntmps3]) ?_)
 show awp _ _ (Code.seq _ _) _ _
 by_cases hf : (decide (([⟨0, zax Idv.zero l⟩] : List Ky).length <= 16) && zvp u 40 && (([⟨0, zax Idv.zero l⟩] : List Ky).map (·.o)).all fewO) = true
 ·rw [hf] at c1
  obtain ⟨z1, z2, z3, _, ho⟩ := zxo hro hf
  have hop := ho _ List.mem_cons_self
  have c2 := pc_MayE u z1 (by omega) (by omega)
  by_cases hm : (!(z0g u).any zw1 && standsT u) = true
  ·rw [hm] at c2
   rw [Bool.and_eq_true, Bool.not_eq_true'] at hm
   have c3 := zwk u hm.2 hm.1
   have c4 := zno id u z1
   have hlw := hop.sz
   have o2 : OpSz (zax id l) := ztf hlw.ws hlw.wt
   obtain ⟨zx1, zx2, zx3⟩ := z27 hm.2
   by_cases ht : (z06 id u).2 = true
   ·have hmem : id ∈ z0g u := by rw [z2z] at ht; simpa using ht
    rw [ht] at c4
    have hfs := z9e id u z1
    have hxs := zd9 hfs
    obtain ⟨_, _, _, _, hwsz, _⟩ := (z2w _).1 hfs
    have c5 := zof (z06 id u).1.words hxs.2
    have o1 : OpSz (zax id ((z06 id u).1.words.map (·.text))) := ztf (by rw [List.length_map]; exact hxs.2) (zy4 hwsz)
    obtain ⟨e1, s1, ha1, hb1, hd1, hn1, hk1, hz1, hl1, hu1⟩ := zph hm.2 hmem rfl o1
    have t1 := zz1 (ds := [.ptr 2 0, .agg [.int .i64 0, .int .i64 0, .int .i64 id.act, .int .i64 id.item, .int .i64 id.n, .int .i64 0, .int .i64 0, .int .i64 0, .rsl false 1 (List.map (D.str ∘ fun x => x.text) (z06 id u).1.words), .str ByteArray.empty, .int .i64 0, .int .i64 0, .int .i64 0, .int .i64 0, .str ByteArray.empty, .nil, .nil, .nil]]) (zek (z8r u) hm.2 (zl1 u) (fun o ho => (by cases ho)) (Nat.zero_le _) (Nat.zero_le _) (Nat.zero_le _) _ o1 2) ⟨Le.refl _, (by have := zlt id ((z06 id u).1.words.map (·.text)); rwa [List.map_map] at this), trivial⟩
    rw [ha1] at t1
    have t2 := zz1 (ds := [.ptr 2 0, .agg [.int .i64 0, .int .i64 0, .int .i64 id.act, .int .i64 id.item, .int .i64 id.n, .int .i64 0, .int .i64 0, .int .i64 0, .rsl false 1 (l.map D.str), .str ByteArray.empty, .int .i64 0, .int .i64 0, .int .i64 0, .int .i64 0, .str ByteArray.empty, .nil, .nil, .nil]]) (zek s1 (by rw [hb1]; exact hm.2) (by rw [hb1]; exact hk1) hz1 (by omega) (by omega) (by rw [hu1]; exact Nat.zero_le _) (zax id l) o2 2) ⟨Le.refl _, zlt id l, trivial⟩
    have t3 : ∀ H nx, 2 < nx -> H 2 = some (edO s1) -> RC Tryz.prog 18 [.ptr 2 0] H nx (z0h s1.draft) := zdx (zj1 s1 (by rw [hd1]; exact hm.2)) (zdc _) 2
    rw [hd1] at t3
    have t4 := zst u z1 u z1
    rw [decide_eq_true rfl] at t4
    by_cases he : doE u (zax id l) 0 = 0
    ·have ha2 : z1l s1 (zax id l) = (0, ⟨u, s1.dn ++ [zax id l], []⟩) := by unfold z1l; rw [hd1, hn1, if_pos he, hb1]
     rw [ha2] at t2
     have hdo : doT u (zax id l) 0 = z1y id (fun q => q.setWords (z3w u (zax id l))) u := rfl
     have hst : standsT (z1y id (fun q => q.setWords (z3w u (zax id l))) u) = true := by rw [<- hdo]; exact z56 he
     obtain ⟨W, hW⟩ : ∃ W, W = z3w u (zax id l) := ⟨_, rfl⟩
     have hWt : W = z6n (z06 id u).1.words l := by rw [hW]; rfl
     have hWl : W.length = l.length := by rw [hWt, z8u]
     have hWx : ∀ i (h : i < W.length) (h2 : i < l.length), W[i].text = l[i] := fun i h h2 => by
      have := zcf (z06 id u).1.words l
      rw [<- hWt] at this
      have h3 : (W.map (·.text))[i]'(by rw [List.length_map]; exact h) = l[i] := by simp only [this]
      rwa [List.getElem_map] at h3
     have hWm : ∀ w ∈ W, w.by_ = Idv.zero \/ w ∈ (z06 id u).1.words := fun w hw => zpb _ _ w (by rw [<- hWt]; exact hw)
     rw [<- hW] at hst hdo
     have hds : Ses.draft ⟨u, s1.dn ++ [zax id l], []⟩ = z1y id (fun q => q.setWords W) u := by
      show draft u (s1.dn ++ [zax id l]) = _
      rw [za4, show draft u s1.dn = u from by have h := hd1; unfold Ses.draft at h; rw [hb1] at h; exact h, hn1]; exact hdo
     obtain ⟨v1, v2, v3⟩ := z27 hst
     have c6 := zj1 ⟨u, s1.dn ++ [zax id l], []⟩ (by rw [hds]; exact hst)
     rw [hds] at c6
     have c7 := zno id _ v1
     rw [zyg W hm.2 hmem] at c7
     have hxl : (z06 id u).1.words.length <= 1000000 := hxs.2
     have hsw : ∀ q : T, (q.setWords W).words = W := fun q => by cases q; rfl
     have hll : l.length <= 1000000 := hlw.ws
     repeat' (first | refine zqj ?_ | ((first | refine z2g (N := 10) rfl fun K J => ?_ | refine z3d (N := 10) rfl (by decide +kernel) fun K J => ?_ | refine zqs (c0) ?_ | refine zqt (c0) ?_ | refine zqs (c1) ?_ | refine zqt (c1) ?_ | refine zqs (c2) ?_ | refine zqt (c2) ?_ | refine z5s (c3) ?_ | refine z50 (c3) rfl rfl rfl ?_ | refine zqs (c4) ?_ | refine zqt (c4) ?_ | refine zqs (c5) ?_ | refine zqt (c5) ?_ | ((first | refine z53 (t1) ?_ ?_ ?_ | refine z6u (t1) ?_ rfl rfl rfl (by decide) ?_ ?_); (focus ((simp (disch := omega) only [go_sem, Nat.reduceBEq, Nat.reduceBeqDiff, Nat.reduceEqDiff, ↓reduceIte, reduceCtorEq, Nat.reduceAdd, Nat.reduceMul, Nat.reduceLeDiff, Nat.reduceLT, Int.reduceLT, Int.reduceLE, Int.reduceEq, z0h, z0d, z0p, z1k, z16, z8r]); done)); (focus (first | omega | ((simp (disch := omega) only [go_sem, Nat.reduceBEq, Nat.reduceBeqDiff, Nat.reduceEqDiff, ↓reduceIte, reduceCtorEq, Nat.reduceAdd, Nat.reduceMul, Nat.reduceLeDiff, Nat.reduceLT, Int.reduceLT, Int.reduceLE, Int.reduceEq, z0h, z0d, z0p, z1k, z16, z8r]); done) | ((simp (disch := omega) only [go_sem, Nat.reduceBEq, Nat.reduceBeqDiff, Nat.reduceEqDiff, ↓reduceIte, reduceCtorEq, Nat.reduceAdd, Nat.reduceMul, Nat.reduceLeDiff, Nat.reduceLT, Int.reduceLT, Int.reduceLE, Int.reduceEq, z0h, z0d, z0p, z1k, z16, z8r]); omega)))) | ((first | refine z53 (t2) ?_ ?_ ?_ | refine z6u (t2) ?_ rfl rfl rfl (by decide) ?_ ?_); (focus ((simp (disch := omega) only [go_sem, Nat.reduceBEq, Nat.reduceBeqDiff, Nat.reduceEqDiff, ↓reduceIte, reduceCtorEq, Nat.reduceAdd, Nat.reduceMul, Nat.reduceLeDiff, Nat.reduceLT, Int.reduceLT, Int.reduceLE, Int.reduceEq, z0h, z0d, z0p, z1k, z16, z8r]); done)); (focus (first | omega | ((simp (disch := omega) only [go_sem, Nat.reduceBEq, Nat.reduceBeqDiff, Nat.reduceEqDiff, ↓reduceIte, reduceCtorEq, Nat.reduceAdd, Nat.reduceMul, Nat.reduceLeDiff, Nat.reduceLT, Int.reduceLT, Int.reduceLE, Int.reduceEq, z0h, z0d, z0p, z1k, z16, z8r]); done) | ((simp (disch := omega) only [go_sem, Nat.reduceBEq, Nat.reduceBeqDiff, Nat.reduceEqDiff, ↓reduceIte, reduceCtorEq, Nat.reduceAdd, Nat.reduceMul, Nat.reduceLeDiff, Nat.reduceLT, Int.reduceLT, Int.reduceLE, Int.reduceEq, z0h, z0d, z0p, z1k, z16, z8r]); omega)))) | ((first | refine z0x (t3 _ _ ?_ ?_) ?_ | refine zo6 (t3 _ _ ?_ ?_) rfl ?_); (focus (first | omega | ((simp (disch := omega) only [go_sem, Nat.reduceBEq, Nat.reduceBeqDiff, Nat.reduceEqDiff, ↓reduceIte, reduceCtorEq, Nat.reduceAdd, Nat.reduceMul, Nat.reduceLeDiff, Nat.reduceLT, Int.reduceLT, Int.reduceLE, Int.reduceEq, z0h, z0d, z0p, z1k, z16, z8r]); done) | ((simp (disch := omega) only [go_sem, Nat.reduceBEq, Nat.reduceBeqDiff, Nat.reduceEqDiff, ↓reduceIte, reduceCtorEq, Nat.reduceAdd, Nat.reduceMul, Nat.reduceLeDiff, Nat.reduceLT, Int.reduceLT, Int.reduceLE, Int.reduceEq, z0h, z0d, z0p, z1k, z16, z8r]); omega))); (focus ((simp (disch := omega) only [go_sem, Nat.reduceBEq, Nat.reduceBeqDiff, Nat.reduceEqDiff, ↓reduceIte, reduceCtorEq, Nat.reduceAdd, Nat.reduceMul, Nat.reduceLeDiff, Nat.reduceLT, Int.reduceLT, Int.reduceLE, Int.reduceEq, z0h, z0d, z0p, z1k, z16, z8r]); done))) | refine zqs (t4) ?_ | refine zqt (t4) ?_); (simp (disch := omega) only [go_sem, Nat.reduceBEq, Nat.reduceBeqDiff, Nat.reduceEqDiff, ↓reduceIte, reduceCtorEq, Nat.reduceAdd, Nat.reduceMul, Nat.reduceLeDiff, Nat.reduceLT, Int.reduceLT, Int.reduceLE, Int.reduceEq, z0h, z0d, z0p, z1k, z16, z8r])) | ((first | refine zqd _ rfl (fun hc => ?_) (fun hc => ?_) | refine zqm _ rfl (fun hc => ?_) (fun hc => ?_)) <;> (first | (cases hc; done) | ((try simp only [z09] at hc); (try (exfalso; omega))))) | refine zqa ?_ | refine zqi ?_ | refine zqb ?_ | refine zqg ?_ | refine zqc ?_ | refine zqk ?_ | refine zql ?_ | refine zqn ?_ | refine zqv ?_ | refine zqw ?_ | refine zqx ?_ | refine zqy ?_ | refine zqz ?_ | refine zs5 rfl ?_ | refine z7e ?_ | refine zqp ?_ | refine zqo ?_ | refine zqu (by (simp (disch := omega) only [go_sem, Nat.reduceBEq, Nat.reduceBeqDiff, Nat.reduceEqDiff, ↓reduceIte, reduceCtorEq, Nat.reduceAdd, Nat.reduceLeDiff, Nat.reduceLT, z0h, z0d, z0p, z1k, z16, z8r]); rfl) rfl ?_ | (refine J _ ?_; clear J K) | (refine zqf (fun hb => ?_) (fun hb => ?_) <;> (have hb2 := hb; try simp only [z09] at hb2) <;> ((first | have F : (_ : Bool) = _ := hb2 | have F := eq_false hb2 | have F := eq_true hb2); (simp (disch := omega) only [go_sem, Nat.reduceBEq, Nat.reduceBeqDiff, Nat.reduceEqDiff, ↓reduceIte, reduceCtorEq, Nat.reduceAdd, Nat.reduceMul, Nat.reduceLeDiff, Nat.reduceLT, Int.reduceLT, Int.reduceLE, Int.reduceEq, hb, F, z0h, z0d, z0p, z1k, z16, z8r]); clear hb F; (try (exfalso; omega)))) | (exfalso; omega))
     all_goals
      refine z1s fun K J => ?_
      (try (simp (disch := omega) only [go_sem, Nat.reduceBEq, Nat.reduceBeqDiff, Nat.reduceEqDiff, ↓reduceIte, reduceCtorEq, Nat.reduceAdd, Nat.reduceMul, Nat.reduceLeDiff, Nat.reduceLT, Int.reduceLT, Int.reduceLE, Int.reduceEq, z0h, z0d, z0p, z1k, z16])); repeat' (first | refine zqj ?_ | ((first | refine zqh fun K J => ?_ | refine zqe (by decide +kernel) fun K J => ?_ | refine zqr fun K J => ?_ | refine zqq (by decide +kernel) fun K J => ?_ | ((first | refine z53 (t2) ?_ ?_ ?_ | refine z6u (t2) ?_ rfl rfl rfl (by decide) ?_ ?_); (focus ((simp (disch := omega) only [go_sem, Nat.reduceBEq, Nat.reduceBeqDiff, Nat.reduceEqDiff, ↓reduceIte, reduceCtorEq, Nat.reduceAdd, Nat.reduceMul, Nat.reduceLeDiff, Nat.reduceLT, Int.reduceLT, Int.reduceLE, Int.reduceEq, z0h, z0d, z0p, z1k, z16]); done)); (focus (first | omega | ((simp (disch := omega) only [go_sem, Nat.reduceBEq, Nat.reduceBeqDiff, Nat.reduceEqDiff, ↓reduceIte, reduceCtorEq, Nat.reduceAdd, Nat.reduceMul, Nat.reduceLeDiff, Nat.reduceLT, Int.reduceLT, Int.reduceLE, Int.reduceEq, z0h, z0d, z0p, z1k, z16]); done) | ((simp (disch := omega) only [go_sem, Nat.reduceBEq, Nat.reduceBeqDiff, Nat.reduceEqDiff, ↓reduceIte, reduceCtorEq, Nat.reduceAdd, Nat.reduceMul, Nat.reduceLeDiff, Nat.reduceLT, Int.reduceLT, Int.reduceLE, Int.reduceEq, z0h, z0d, z0p, z1k, z16]); omega))))); (simp (disch := omega) only [go_sem, Nat.reduceBEq, Nat.reduceBeqDiff, Nat.reduceEqDiff, ↓reduceIte, reduceCtorEq, Nat.reduceAdd, Nat.reduceMul, Nat.reduceLeDiff, Nat.reduceLT, Int.reduceLT, Int.reduceLE, Int.reduceEq, z0h, z0d, z0p, z1k, z16])) | ((first | refine zqd _ rfl (fun hc => ?_) (fun hc => ?_) | refine zqm _ rfl (fun hc => ?_) (fun hc => ?_)) <;> (first | (cases hc; done) | ((try simp only [z09] at hc); (try (exfalso; omega))))) | refine zqa ?_ | refine zqi ?_ | refine zqb ?_ | refine zqg ?_ | refine zqc ?_ | refine zqk ?_ | refine zql ?_ | refine zqn ?_ | refine zqv ?_ | refine zqw ?_ | refine zqx ?_ | refine zqy ?_ | refine zqz ?_ | refine zs5 rfl ?_ | refine z7e ?_ | refine zqp ?_ | refine zqo ?_ | refine zqu (by (simp (disch := omega) only [go_sem, Nat.reduceBEq, Nat.reduceBeqDiff, Nat.reduceEqDiff, ↓reduceIte, reduceCtorEq, Nat.reduceAdd, Nat.reduceLeDiff, Nat.reduceLT, z0h, z0d, z0p, z1k, z16]); rfl) rfl ?_ | (refine J _ ?_; clear J K) | (refine zqf (fun hb => ?_) (fun hb => ?_) <;> (have hb2 := hb; try simp only [z09] at hb2) <;> ((first | have F : (_ : Bool) = _ := hb2 | have F := eq_false hb2 | have F := eq_true hb2); (simp (disch := omega) only [go_sem, Nat.reduceBEq, Nat.reduceBeqDiff, Nat.reduceEqDiff, ↓reduceIte, reduceCtorEq, Nat.reduceAdd, Nat.reduceMul, Nat.reduceLeDiff, Nat.reduceLT, Int.reduceLT, Int.reduceLE, Int.reduceEq, hb, F, z0h, z0d, z0p, z1k, z16]); clear hb F; (try (exfalso; omega)))) | (exfalso; omega))
      refine J _ _ (zjp (b := 2) (j := 7) (e := 74) (cs := z1a ⟨u, s1.dn ++ [zax id l], []⟩) (d := .agg (z1a ⟨u, s1.dn ++ [zax id l], []⟩)) ?_ (.inr rfl) (z7u _) ?_) ?_
      ·first | ((simp (disch := omega) only [go_sem, Nat.reduceBEq, Nat.reduceBeqDiff, Nat.reduceEqDiff, ↓reduceIte, reduceCtorEq, Nat.reduceAdd, Nat.reduceMul, Nat.reduceLeDiff, Nat.reduceLT, Int.reduceLT, Int.reduceLE, Int.reduceEq]); done) | ((simp (disch := omega) only [go_sem, Nat.reduceBEq, Nat.reduceBeqDiff, Nat.reduceEqDiff, ↓reduceIte, reduceCtorEq, Nat.reduceAdd, Nat.reduceMul, Nat.reduceLeDiff, Nat.reduceLT, Int.reduceLT, Int.reduceLE, Int.reduceEq]); rfl)
      ·(simp (disch := omega) only [go_sem, Nat.reduceBEq, Nat.reduceBeqDiff, Nat.reduceEqDiff, ↓reduceIte, reduceCtorEq, Nat.reduceAdd, Nat.reduceMul, Nat.reduceLeDiff, Nat.reduceLT, Int.reduceLT, Int.reduceLE, Int.reduceEq])
      clear J K
      repeat' (first | refine zqj ?_ | ((first | refine zqh fun K J => ?_ | refine zqe (by decide +kernel) fun K J => ?_ | refine zqr fun K J => ?_ | refine zqq (by decide +kernel) fun K J => ?_ | refine zqs (c6) ?_ | refine zqt (c6) ?_ | refine zqs (c7) ?_ | refine zqt (c7) ?_); (simp (disch := omega) only [go_sem, Nat.reduceBEq, Nat.reduceBeqDiff, Nat.reduceEqDiff, ↓reduceIte, reduceCtorEq, Nat.reduceAdd, Nat.reduceMul, Nat.reduceLeDiff, Nat.reduceLT, Int.reduceLT, Int.reduceLE, Int.reduceEq, z0h, z0d, z0p, zj3])) | ((first | refine zqd _ rfl (fun hc => ?_) (fun hc => ?_) | refine zqm _ rfl (fun hc => ?_) (fun hc => ?_)) <;> (first | (cases hc; done) | ((try simp only [z09] at hc); (try (exfalso; omega))))) | refine zqa ?_ | refine zqi ?_ | refine zqb ?_ | refine zqg ?_ | refine zqc ?_ | refine zqk ?_ | refine zql ?_ | refine zqn ?_ | refine zqv ?_ | refine zqw ?_ | refine zqx ?_ | refine zqy ?_ | refine zqz ?_ | refine zs5 rfl ?_ | refine z7e ?_ | refine zqp ?_ | refine zqo ?_ | refine zqu (by (simp (disch := omega) only [go_sem, Nat.reduceBEq, Nat.reduceBeqDiff, Nat.reduceEqDiff, ↓reduceIte, reduceCtorEq, Nat.reduceAdd, Nat.reduceLeDiff, Nat.reduceLT, z0h, z0d, z0p, zj3]); rfl) rfl ?_ | (refine J _ ?_; clear J K) | (refine zqf (fun hb => ?_) (fun hb => ?_) <;> (have hb2 := hb; try simp only [z09] at hb2) <;> ((first | have F : (_ : Bool) = _ := hb2 | have F := eq_false hb2 | have F := eq_true hb2); (simp (disch := omega) only [go_sem, Nat.reduceBEq, Nat.reduceBeqDiff, Nat.reduceEqDiff, ↓reduceIte, reduceCtorEq, Nat.reduceAdd, Nat.reduceMul, Nat.reduceLeDiff, Nat.reduceLT, Int.reduceLT, Int.reduceLE, Int.reduceEq, hb, F, z0h, z0d, z0p, zj3]); clear hb F; (try (exfalso; omega)))) | (exfalso; omega))
      (refine z4t (fun U st => ∃ (i : _), U = W.length - i /\ st.t 2 = z1k l /\ st.t 9 = .ptr 3 0 /\ st.t 12 = .ptr 4 0 /\ st.t 93 = z0q W /\ st.t 94 = .int .i64 W.length /\ st.t 95 = .int .i64 i /\ st.H 3 = some (.box 27 (z0b (z06 id u).1)) /\ st.H 4 = some (.box 27 (z0b ((z06 id u).1.setWords W))) /\ (i <= W.length) /\ (5 <= st.nx)) ?_ ?_); rotate_left; (rintro U st ⟨i, rfl, q2, q9, q12, q93, q94, q95, qH3, qH4, qp0, qp1⟩); rotate_left
      ·(refine ⟨_, 0, rfl, ?_⟩); (simp (disch := omega) only [go_sem, Nat.reduceBEq, Nat.reduceBeqDiff, Nat.reduceEqDiff, ↓reduceIte, reduceCtorEq, Nat.reduceAdd, Nat.reduceMul, Nat.reduceLeDiff, Nat.reduceLT, Int.reduceLT, Int.reduceLE, Int.reduceEq, true_and, and_true, and_self, Int.natCast_add, Int.natCast_one, Int.natCast_zero, List.flatMap_nil, List.map_nil, List.append_nil, List.nil_append, hsw, z1k])
       (repeat' (first | omega | rfl | refine And.intro ?_ ?_))
      by_cases hi : i < W.length
      ·have hil : i < l.length := by omega
       have hg := hWx i hi hil
       have hin := hWm _ (List.getElem_mem hi)
       repeat' (first | refine zqj ?_ | ((first | refine zqh fun K J => ?_ | refine zqe (by decide +kernel) fun K J => ?_ | refine zqr fun K J => ?_ | refine zqq (by decide +kernel) fun K J => ?_); (simp (disch := omega) only [go_sem, Nat.reduceBEq, Nat.reduceBeqDiff, Nat.reduceEqDiff, ↓reduceIte, reduceCtorEq, Nat.reduceAdd, Nat.reduceMul, Nat.reduceLeDiff, Nat.reduceLT, Int.reduceLT, Int.reduceLE, Int.reduceEq, q2, q9, q12, q93, q94, q95, qH3, qH4, z1k, z0q, z4b, z0z, hg])) | ((first | refine zqd _ rfl (fun hc => ?_) (fun hc => ?_) | refine zqm _ rfl (fun hc => ?_) (fun hc => ?_)) <;> (first | (cases hc; done) | ((try simp only [z09] at hc); (try (exfalso; omega))))) | refine zqa ?_ | refine zqi ?_ | refine zqb ?_ | refine zqg ?_ | refine zqc ?_ | refine zqk ?_ | refine zql ?_ | refine zqn ?_ | refine zqv ?_ | refine zqw ?_ | refine zqx ?_ | refine zqy ?_ | refine zqz ?_ | refine zs5 rfl ?_ | refine z7e ?_ | refine zqp ?_ | refine zqo ?_ | refine zqu (by (simp (disch := omega) only [go_sem, Nat.reduceBEq, Nat.reduceBeqDiff, Nat.reduceEqDiff, ↓reduceIte, reduceCtorEq, Nat.reduceAdd, Nat.reduceLeDiff, Nat.reduceLT, q2, q9, q12, q93, q94, q95, qH3, qH4, z1k, z0q, z4b, z0z, hg]); rfl) rfl ?_ | (refine J _ ?_; clear J K) | (refine zqf (fun hb => ?_) (fun hb => ?_) <;> (have hb2 := hb; try simp only [z09] at hb2) <;> ((first | have F : (_ : Bool) = _ := hb2 | have F := eq_false hb2 | have F := eq_true hb2); (simp (disch := omega) only [go_sem, Nat.reduceBEq, Nat.reduceBeqDiff, Nat.reduceEqDiff, ↓reduceIte, reduceCtorEq, Nat.reduceAdd, Nat.reduceMul, Nat.reduceLeDiff, Nat.reduceLT, Int.reduceLT, Int.reduceLE, Int.reduceEq, hb, F, q2, q9, q12, q93, q94, q95, qH3, qH4, z1k, z0q, z4b, z0z, hg]); clear hb F; (try (exfalso; omega)))) | (exfalso; omega))
       (refine z4t (fun U st => ∃ (m : _) (b : _), U = (z06 id u).1.words.length - m /\ st.t 2 = z1k l /\ st.t 9 = .ptr 3 0 /\ st.t 12 = .ptr 4 0 /\ st.t 93 = z0q W /\ st.t 94 = .int .i64 W.length /\ st.t 95 = .int .i64 i /\ st.t 14 = .int .i64 i /\ st.t 15 = .ptr b 0 /\ st.t 16 = .bool (zwy W[i] ((z06 id u).1.words.take m)) /\ st.t 112 = z0q (z06 id u).1.words /\ st.t 113 = .int .i64 (z06 id u).1.words.length /\ st.t 114 = .int .i64 m /\ st.H 3 = some (.box 27 (z0b (z06 id u).1)) /\ st.H 4 = some (.box 27 (z0b ((z06 id u).1.setWords W))) /\ st.H (b) = some (.box 50 (z0z W[i])) /\ (m <= (z06 id u).1.words.length) /\ (4 < b) /\ (b < st.nx)) ?_ ?_); rotate_left; (rintro U st ⟨m, b, rfl, r2, r9, r12, r93, r94, r95, r14, r15, r16, r112, r113, r114, rH3, rH4, rHb, rp0, rp1, rp2⟩); rotate_left
       ·(refine ⟨_, 0, st.nx, rfl, ?_⟩); (simp (disch := omega) only [go_sem, Nat.reduceBEq, Nat.reduceBeqDiff, Nat.reduceEqDiff, ↓reduceIte, reduceCtorEq, Nat.reduceAdd, Nat.reduceMul, Nat.reduceLeDiff, Nat.reduceLT, Int.reduceLT, Int.reduceLE, Int.reduceEq, q2, q9, q12, q93, q94, q95, qH3, qH4, true_and, and_true, and_self, Int.natCast_add, Int.natCast_one, Int.natCast_zero, List.flatMap_nil, List.map_nil, List.append_nil, List.nil_append, z1k, z0q, z0z, List.take_zero, zy5])
        exact ⟨by rw [hg], by omega, by omega⟩
       by_cases hm2 : m < (z06 id u).1.words.length
       ·have htk := List.take_succ_eq_append_getElem hm2
        obtain ⟨B, hB⟩ : ∃ B, B = zwy W[i] ((z06 id u).1.words.take m) := ⟨_, rfl⟩
        rw [<- hB] at r16
        have hn : zwy W[i] ((z06 id u).1.words.take (m + 1)) = (B || decide ((z06 id u).1.words[m] = W[i])) := by rw [htk, ztg, hB]
        cases B with
        | true =>
         repeat' (first | refine zqj ?_ | ((first | refine zqh fun K J => ?_ | refine zqe (by decide +kernel) fun K J => ?_ | refine zqr fun K J => ?_ | refine zqq (by decide +kernel) fun K J => ?_); (simp (disch := omega) only [go_sem, Nat.reduceBEq, Nat.reduceBeqDiff, Nat.reduceEqDiff, ↓reduceIte, reduceCtorEq, Nat.reduceAdd, Nat.reduceMul, Nat.reduceLeDiff, Nat.reduceLT, Int.reduceLT, Int.reduceLE, Int.reduceEq, r2, r9, r12, r93, r94, r95, r14, r15, r16, r112, r113, r114, rH3, rH4, rHb, z0q, z4b, z0z])) | ((first | refine zqd _ rfl (fun hc => ?_) (fun hc => ?_) | refine zqm _ rfl (fun hc => ?_) (fun hc => ?_)) <;> (first | (cases hc; done) | ((try simp only [z09] at hc); (try (exfalso; omega))))) | refine zqa ?_ | refine zqi ?_ | refine zqb ?_ | refine zqg ?_ | refine zqc ?_ | refine zqk ?_ | refine zql ?_ | refine zqn ?_ | refine zqv ?_ | refine zqw ?_ | refine zqx ?_ | refine zqy ?_ | refine zqz ?_ | refine zs5 rfl ?_ | refine z7e ?_ | refine zqp ?_ | refine zqo ?_ | refine zqu (by (simp (disch := omega) only [go_sem, Nat.reduceBEq, Nat.reduceBeqDiff, Nat.reduceEqDiff, ↓reduceIte, reduceCtorEq, Nat.reduceAdd, Nat.reduceLeDiff, Nat.reduceLT, r2, r9, r12, r93, r94, r95, r14, r15, r16, r112, r113, r114, rH3, rH4, rHb, z0q, z4b, z0z]); rfl) rfl ?_ | (refine J _ ?_; clear J K) | (refine zqf (fun hb => ?_) (fun hb => ?_) <;> (have hb2 := hb; try simp only [z09] at hb2) <;> ((first | have F : (_ : Bool) = _ := hb2 | have F := eq_false hb2 | have F := eq_true hb2); (simp (disch := omega) only [go_sem, Nat.reduceBEq, Nat.reduceBeqDiff, Nat.reduceEqDiff, ↓reduceIte, reduceCtorEq, Nat.reduceAdd, Nat.reduceMul, Nat.reduceLeDiff, Nat.reduceLT, Int.reduceLT, Int.reduceLE, Int.reduceEq, hb, F, r2, r9, r12, r93, r94, r95, r14, r15, r16, r112, r113, r114, rH3, rH4, rHb, z0q, z4b, z0z]); clear hb F; (try (exfalso; omega)))) | (exfalso; omega))
         (refine Exists.intro _ (And.intro ?_ ⟨m + 1, b, rfl, ?_⟩)); rotate_left; (simp (disch := omega) only [go_sem, Nat.reduceBEq, Nat.reduceBeqDiff, Nat.reduceEqDiff, ↓reduceIte, reduceCtorEq, Nat.reduceAdd, Nat.reduceMul, Nat.reduceLeDiff, Nat.reduceLT, Int.reduceLT, Int.reduceLE, Int.reduceEq, r2, r9, r12, r93, r94, r95, r14, r15, r16, r112, r113, r114, rH3, rH4, rHb, true_and, and_true, and_self, Int.natCast_add, Int.natCast_one, Int.natCast_zero, List.flatMap_append, List.flatMap_cons, List.flatMap_nil, List.map_append, List.map_cons, List.map_nil, List.append_nil, List.cons_append, List.nil_append, hn, hg, z0z]); rotate_left
         all_goals first | omega | exact ⟨by omega, by omega⟩
        | false =>
         repeat' (first | refine zqj ?_ | ((first | refine zqh fun K J => ?_ | refine zqe (by decide +kernel) fun K J => ?_ | refine zqr fun K J => ?_ | refine zqq (by decide +kernel) fun K J => ?_); (simp (disch := omega) only [go_sem, Nat.reduceBEq, Nat.reduceBeqDiff, Nat.reduceEqDiff, ↓reduceIte, reduceCtorEq, Nat.reduceAdd, Nat.reduceMul, Nat.reduceLeDiff, Nat.reduceLT, Int.reduceLT, Int.reduceLE, Int.reduceEq, r2, r9, r12, r93, r94, r95, r14, r15, r16, r112, r113, r114, rH3, rH4, rHb, z0q, z4b, z0z])) | ((first | refine zqd _ rfl (fun hc => ?_) (fun hc => ?_) | refine zqm _ rfl (fun hc => ?_) (fun hc => ?_)) <;> (first | (cases hc; done) | ((try simp only [z09] at hc); (try (exfalso; omega))))) | refine zqa ?_ | refine zqi ?_ | refine zqb ?_ | refine zqg ?_ | refine zqc ?_ | refine zqk ?_ | refine zql ?_ | refine zqn ?_ | refine zqv ?_ | refine zqw ?_ | refine zqx ?_ | refine zqy ?_ | refine zqz ?_ | refine zs5 rfl ?_ | refine z7e ?_ | refine zqp ?_ | refine zqo ?_ | refine zqu (by (simp (disch := omega) only [go_sem, Nat.reduceBEq, Nat.reduceBeqDiff, Nat.reduceEqDiff, ↓reduceIte, reduceCtorEq, Nat.reduceAdd, Nat.reduceLeDiff, Nat.reduceLT, r2, r9, r12, r93, r94, r95, r14, r15, r16, r112, r113, r114, rH3, rH4, rHb, z0q, z4b, z0z]); rfl) rfl ?_ | (refine J _ ?_; clear J K) | (refine zqf (fun hb => ?_) (fun hb => ?_) <;> (have hb2 := hb; try simp only [z09] at hb2) <;> ((first | have F : (_ : Bool) = _ := hb2 | have F := eq_false hb2 | have F := eq_true hb2); (simp (disch := omega) only [go_sem, Nat.reduceBEq, Nat.reduceBeqDiff, Nat.reduceEqDiff, ↓reduceIte, reduceCtorEq, Nat.reduceAdd, Nat.reduceMul, Nat.reduceLeDiff, Nat.reduceLT, Int.reduceLT, Int.reduceLE, Int.reduceEq, hb, F, r2, r9, r12, r93, r94, r95, r14, r15, r16, r112, r113, r114, rH3, rH4, rHb, z0q, z4b, z0z]); clear hb F; (try (exfalso; omega)))) | (exfalso; omega))
         (refine Exists.intro _ (And.intro ?_ ⟨m + 1, b, rfl, ?_⟩)); rotate_left; (simp (disch := omega) only [go_sem, Nat.reduceBEq, Nat.reduceBeqDiff, Nat.reduceEqDiff, ↓reduceIte, reduceCtorEq, Nat.reduceAdd, Nat.reduceMul, Nat.reduceLeDiff, Nat.reduceLT, Int.reduceLT, Int.reduceLE, Int.reduceEq, r2, r9, r12, r93, r94, r95, r14, r15, r16, r112, r113, r114, rH3, rH4, rHb, true_and, and_true, and_self, Int.natCast_add, Int.natCast_one, Int.natCast_zero, List.flatMap_append, List.flatMap_cons, List.flatMap_nil, List.map_append, List.map_cons, List.map_nil, List.append_nil, List.cons_append, List.nil_append, hn, hg, z0z]); rotate_left
         all_goals first | omega | exact ⟨by omega, by omega⟩
       ·have hme : m = (z06 id u).1.words.length := by omega
        subst hme
        rw [List.take_length, metW_in hin] at r16
        repeat' (first | refine zqj ?_ | ((first | refine zqh fun K J => ?_ | refine zqe (by decide +kernel) fun K J => ?_ | refine zqr fun K J => ?_ | refine zqq (by decide +kernel) fun K J => ?_); (simp (disch := omega) only [go_sem, Nat.reduceBEq, Nat.reduceBeqDiff, Nat.reduceEqDiff, ↓reduceIte, reduceCtorEq, Nat.reduceAdd, Nat.reduceMul, Nat.reduceLeDiff, Nat.reduceLT, Int.reduceLT, Int.reduceLE, Int.reduceEq, r2, r9, r12, r93, r94, r95, r14, r15, r16, r112, r113, r114, rH3, rH4, rHb, z0q])) | ((first | refine zqd _ rfl (fun hc => ?_) (fun hc => ?_) | refine zqm _ rfl (fun hc => ?_) (fun hc => ?_)) <;> (first | (cases hc; done) | ((try simp only [z09] at hc); (try (exfalso; omega))))) | refine zqa ?_ | refine zqi ?_ | refine zqb ?_ | refine zqg ?_ | refine zqc ?_ | refine zqk ?_ | refine zql ?_ | refine zqn ?_ | refine zqv ?_ | refine zqw ?_ | refine zqx ?_ | refine zqy ?_ | refine zqz ?_ | refine zs5 rfl ?_ | refine z7e ?_ | refine zqp ?_ | refine zqo ?_ | refine zqu (by (simp (disch := omega) only [go_sem, Nat.reduceBEq, Nat.reduceBeqDiff, Nat.reduceEqDiff, ↓reduceIte, reduceCtorEq, Nat.reduceAdd, Nat.reduceLeDiff, Nat.reduceLT, r2, r9, r12, r93, r94, r95, r14, r15, r16, r112, r113, r114, rH3, rH4, rHb, z0q]); rfl) rfl ?_ | (refine J _ ?_; clear J K) | (refine zqf (fun hb => ?_) (fun hb => ?_) <;> (have hb2 := hb; try simp only [z09] at hb2) <;> ((first | have F : (_ : Bool) = _ := hb2 | have F := eq_false hb2 | have F := eq_true hb2); (simp (disch := omega) only [go_sem, Nat.reduceBEq, Nat.reduceBeqDiff, Nat.reduceEqDiff, ↓reduceIte, reduceCtorEq, Nat.reduceAdd, Nat.reduceMul, Nat.reduceLeDiff, Nat.reduceLT, Int.reduceLT, Int.reduceLE, Int.reduceEq, hb, F, r2, r9, r12, r93, r94, r95, r14, r15, r16, r112, r113, r114, rH3, rH4, rHb, z0q]); clear hb F; (try (exfalso; omega)))) | (exfalso; omega))
        (refine Exists.intro _ (And.intro ?_ ⟨i + 1, rfl, ?_⟩)); rotate_left; (simp (disch := omega) only [go_sem, Nat.reduceBEq, Nat.reduceBeqDiff, Nat.reduceEqDiff, ↓reduceIte, reduceCtorEq, Nat.reduceAdd, Nat.reduceMul, Nat.reduceLeDiff, Nat.reduceLT, Int.reduceLT, Int.reduceLE, Int.reduceEq, q2, q9, q12, q93, q94, q95, qH3, qH4, true_and, and_true, and_self, Int.natCast_add, Int.natCast_one, Int.natCast_zero, List.flatMap_append, List.flatMap_cons, List.flatMap_nil, List.map_append, List.map_cons, List.map_nil, List.append_nil, List.cons_append, List.nil_append, r2, r9, r12, r93, r94, r95, rH3, rH4]); rotate_left
        (repeat' (first | omega | rfl | refine And.intro ?_ ?_))
      ·have hie : i = W.length := by omega
       subst hie
       repeat' (first | refine zqj ?_ | ((first | refine zqh fun K J => ?_ | refine zqe (by decide +kernel) fun K J => ?_ | refine zqr fun K J => ?_ | refine zqq (by decide +kernel) fun K J => ?_); (simp (disch := omega) only [go_sem, Nat.reduceBEq, Nat.reduceBeqDiff, Nat.reduceEqDiff, ↓reduceIte, reduceCtorEq, Nat.reduceAdd, Nat.reduceMul, Nat.reduceLeDiff, Nat.reduceLT, Int.reduceLT, Int.reduceLE, Int.reduceEq, q2, q9, q12, q93, q94, q95, qH3, qH4, z1k, z0q, hsw, hWl])) | ((first | refine zqd _ rfl (fun hc => ?_) (fun hc => ?_) | refine zqm _ rfl (fun hc => ?_) (fun hc => ?_)) <;> (first | (cases hc; done) | ((try simp only [z09] at hc); (try (exfalso; omega))))) | refine zqa ?_ | refine zqi ?_ | refine zqb ?_ | refine zqg ?_ | refine zqc ?_ | refine zqk ?_ | refine zql ?_ | refine zqn ?_ | refine zqv ?_ | refine zqw ?_ | refine zqx ?_ | refine zqy ?_ | refine zqz ?_ | refine zs5 rfl ?_ | refine z7e ?_ | refine zqp ?_ | refine zqo ?_ | refine zqu (by (simp (disch := omega) only [go_sem, Nat.reduceBEq, Nat.reduceBeqDiff, Nat.reduceEqDiff, ↓reduceIte, reduceCtorEq, Nat.reduceAdd, Nat.reduceLeDiff, Nat.reduceLT, q2, q9, q12, q93, q94, q95, qH3, qH4, z1k, z0q, hsw, hWl]); rfl) rfl ?_ | (refine J _ ?_; clear J K) | (refine zqf (fun hb => ?_) (fun hb => ?_) <;> (have hb2 := hb; try simp only [z09] at hb2) <;> ((first | have F : (_ : Bool) = _ := hb2 | have F := eq_false hb2 | have F := eq_true hb2); (simp (disch := omega) only [go_sem, Nat.reduceBEq, Nat.reduceBeqDiff, Nat.reduceEqDiff, ↓reduceIte, reduceCtorEq, Nat.reduceAdd, Nat.reduceMul, Nat.reduceLeDiff, Nat.reduceLT, Int.reduceLT, Int.reduceLE, Int.reduceEq, hb, F, q2, q9, q12, q93, q94, q95, qH3, qH4, z1k, z0q, hsw, hWl]); clear hb F; (try (exfalso; omega)))) | (exfalso; omega))
       exact z02 rfl
    ·have ha2 : z1l s1 (zax id l) = (doE u (zax id l) 0, s1) := by unfold z1l; rw [hd1, hn1, if_neg he]
     rw [ha2] at t2
     repeat' (first | refine zqj ?_ | ((first | refine zqh fun K J => ?_ | refine zqe (by decide +kernel) fun K J => ?_ | refine zqr fun K J => ?_ | refine zqq (by decide +kernel) fun K J => ?_ | refine zqs (c0) ?_ | refine zqt (c0) ?_ | refine zqs (c1) ?_ | refine zqt (c1) ?_ | refine zqs (c2) ?_ | refine zqt (c2) ?_ | refine z5s (c3) ?_ | refine z50 (c3) rfl rfl rfl ?_ | refine zqs (c4) ?_ | refine zqt (c4) ?_ | refine zqs (c5) ?_ | refine zqt (c5) ?_ | ((first | refine z53 (t1) ?_ ?_ ?_ | refine z6u (t1) ?_ rfl rfl rfl (by decide) ?_ ?_); (focus ((simp (disch := omega) only [go_sem, Nat.reduceBEq, Nat.reduceBeqDiff, Nat.reduceEqDiff, ↓reduceIte, reduceCtorEq, Nat.reduceAdd, Nat.reduceMul, Nat.reduceLeDiff, Nat.reduceLT, Int.reduceLT, Int.reduceLE, Int.reduceEq, z0h, z0d, z0p, z1k, z16, z8r]); done)); (focus (first | omega | ((simp (disch := omega) only [go_sem, Nat.reduceBEq, Nat.reduceBeqDiff, Nat.reduceEqDiff, ↓reduceIte, reduceCtorEq, Nat.reduceAdd, Nat.reduceMul, Nat.reduceLeDiff, Nat.reduceLT, Int.reduceLT, Int.reduceLE, Int.reduceEq, z0h, z0d, z0p, z1k, z16, z8r]); done) | ((simp (disch := omega) only [go_sem, Nat.reduceBEq, Nat.reduceBeqDiff, Nat.reduceEqDiff, ↓reduceIte, reduceCtorEq, Nat.reduceAdd, Nat.reduceMul, Nat.reduceLeDiff, Nat.reduceLT, Int.reduceLT, Int.reduceLE, Int.reduceEq, z0h, z0d, z0p, z1k, z16, z8r]); omega)))) | ((first | refine z53 (t2) ?_ ?_ ?_ | refine z6u (t2) ?_ rfl rfl rfl (by decide) ?_ ?_); (focus ((simp (disch := omega) only [go_sem, Nat.reduceBEq, Nat.reduceBeqDiff, Nat.reduceEqDiff, ↓reduceIte, reduceCtorEq, Nat.reduceAdd, Nat.reduceMul, Nat.reduceLeDiff, Nat.reduceLT, Int.reduceLT, Int.reduceLE, Int.reduceEq, z0h, z0d, z0p, z1k, z16, z8r]); done)); (focus (first | omega | ((simp (disch := omega) only [go_sem, Nat.reduceBEq, Nat.reduceBeqDiff, Nat.reduceEqDiff, ↓reduceIte, reduceCtorEq, Nat.reduceAdd, Nat.reduceMul, Nat.reduceLeDiff, Nat.reduceLT, Int.reduceLT, Int.reduceLE, Int.reduceEq, z0h, z0d, z0p, z1k, z16, z8r]); done) | ((simp (disch := omega) only [go_sem, Nat.reduceBEq, Nat.reduceBeqDiff, Nat.reduceEqDiff, ↓reduceIte, reduceCtorEq, Nat.reduceAdd, Nat.reduceMul, Nat.reduceLeDiff, Nat.reduceLT, Int.reduceLT, Int.reduceLE, Int.reduceEq, z0h, z0d, z0p, z1k, z16, z8r]); omega)))) | ((first | refine z0x (t3 _ _ ?_ ?_) ?_ | refine zo6 (t3 _ _ ?_ ?_) rfl ?_); (focus (first | omega | ((simp (disch := omega) only [go_sem, Nat.reduceBEq, Nat.reduceBeqDiff, Nat.reduceEqDiff, ↓reduceIte, reduceCtorEq, Nat.reduceAdd, Nat.reduceMul, Nat.reduceLeDiff, Nat.reduceLT, Int.reduceLT, Int.reduceLE, Int.reduceEq, z0h, z0d, z0p, z1k, z16, z8r]); done) | ((simp (disch := omega) only [go_sem, Nat.reduceBEq, Nat.reduceBeqDiff, Nat.reduceEqDiff, ↓reduceIte, reduceCtorEq, Nat.reduceAdd, Nat.reduceMul, Nat.reduceLeDiff, Nat.reduceLT, Int.reduceLT, Int.reduceLE, Int.reduceEq, z0h, z0d, z0p, z1k, z16, z8r]); omega))); (focus ((simp (disch := omega) only [go_sem, Nat.reduceBEq, Nat.reduceBeqDiff, Nat.reduceEqDiff, ↓reduceIte, reduceCtorEq, Nat.reduceAdd, Nat.reduceMul, Nat.reduceLeDiff, Nat.reduceLT, Int.reduceLT, Int.reduceLE, Int.reduceEq, z0h, z0d, z0p, z1k, z16, z8r]); done))) | refine zqs (t4) ?_ | refine zqt (t4) ?_); (simp (disch := omega) only [go_sem, Nat.reduceBEq, Nat.reduceBeqDiff, Nat.reduceEqDiff, ↓reduceIte, reduceCtorEq, Nat.reduceAdd, Nat.reduceMul, Nat.reduceLeDiff, Nat.reduceLT, Int.reduceLT, Int.reduceLE, Int.reduceEq, z0h, z0d, z0p, z1k, z16, z8r])) | ((first | refine zqd _ rfl (fun hc => ?_) (fun hc => ?_) | refine zqm _ rfl (fun hc => ?_) (fun hc => ?_)) <;> (first | (cases hc; done) | ((try simp only [z09] at hc); (try (exfalso; omega))))) | refine zqa ?_ | refine zqi ?_ | refine zqb ?_ | refine zqg ?_ | refine zqc ?_ | refine zqk ?_ | refine zql ?_ | refine zqn ?_ | refine zqv ?_ | refine zqw ?_ | refine zqx ?_ | refine zqy ?_ | refine zqz ?_ | refine zs5 rfl ?_ | refine z7e ?_ | refine zqp ?_ | refine zqo ?_ | refine zqu (by (simp (disch := omega) only [go_sem, Nat.reduceBEq, Nat.reduceBeqDiff, Nat.reduceEqDiff, ↓reduceIte, reduceCtorEq, Nat.reduceAdd, Nat.reduceLeDiff, Nat.reduceLT, z0h, z0d, z0p, z1k, z16, z8r]); rfl) rfl ?_ | (refine J _ ?_; clear J K) | (refine zqf (fun hb => ?_) (fun hb => ?_) <;> (have hb2 := hb; try simp only [z09] at hb2) <;> ((first | have F : (_ : Bool) = _ := hb2 | have F := eq_false hb2 | have F := eq_true hb2); (simp (disch := omega) only [go_sem, Nat.reduceBEq, Nat.reduceBeqDiff, Nat.reduceEqDiff, ↓reduceIte, reduceCtorEq, Nat.reduceAdd, Nat.reduceMul, Nat.reduceLeDiff, Nat.reduceLT, Int.reduceLT, Int.reduceLE, Int.reduceEq, hb, F, z0h, z0d, z0p, z1k, z16, z8r]); clear hb F; (try (exfalso; omega)))) | (exfalso; omega))
     all_goals exact z02 rfl
   ·rw [Bool.not_eq_true] at ht
    rw [ht] at c4
    have hne : doE u (zax id l) 0 ≠ 0 := fun h => by
     have hmem := (zbs h).2.1
     rw [z2z, decide_eq_true (show id ∈ z0g u from hmem)] at ht; cases ht
    have t1 := zz1 (ds := [.ptr 2 0, .agg [.int .i64 0, .int .i64 0, .int .i64 id.act, .int .i64 id.item, .int .i64 id.n, .int .i64 0, .int .i64 0, .int .i64 0, .rsl false 1 (l.map D.str), .str ByteArray.empty, .int .i64 0, .int .i64 0, .int .i64 0, .int .i64 0, .str ByteArray.empty, .nil, .nil, .nil]]) (zek (z8r u) hm.2 (zl1 u) (fun o ho => (by cases ho)) (Nat.zero_le _) (Nat.zero_le _) (Nat.zero_le _) (zax id l) o2 2) ⟨Le.refl _, zlt id l, trivial⟩
    have ha : z1l (z8r u) (zax id l) = (doE u (zax id l) 0, z8r u) := if_neg hne
    rw [ha] at t1
    repeat' (first | refine zqj ?_ | ((first | refine zqh fun K J => ?_ | refine zqe (by decide +kernel) fun K J => ?_ | refine zqr fun K J => ?_ | refine zqq (by decide +kernel) fun K J => ?_ | refine zqs (c0) ?_ | refine zqt (c0) ?_ | refine zqs (c1) ?_ | refine zqt (c1) ?_ | refine zqs (c2) ?_ | refine zqt (c2) ?_ | refine z5s (c3) ?_ | refine z50 (c3) rfl rfl rfl ?_ | refine zqs (c4) ?_ | refine zqt (c4) ?_ | ((first | refine z53 (t1) ?_ ?_ ?_ | refine z6u (t1) ?_ rfl rfl rfl (by decide) ?_ ?_); (focus ((simp (disch := omega) only [go_sem, Nat.reduceBEq, Nat.reduceBeqDiff, Nat.reduceEqDiff, ↓reduceIte, reduceCtorEq, Nat.reduceAdd, Nat.reduceMul, Nat.reduceLeDiff, Nat.reduceLT, Int.reduceLT, Int.reduceLE, Int.reduceEq, z0h, z0d, z0p, z1k, z16, z8r]); done)); (focus (first | omega | ((simp (disch := omega) only [go_sem, Nat.reduceBEq, Nat.reduceBeqDiff, Nat.reduceEqDiff, ↓reduceIte, reduceCtorEq, Nat.reduceAdd, Nat.reduceMul, Nat.reduceLeDiff, Nat.reduceLT, Int.reduceLT, Int.reduceLE, Int.reduceEq, z0h, z0d, z0p, z1k, z16, z8r]); done) | ((simp (disch := omega) only [go_sem, Nat.reduceBEq, Nat.reduceBeqDiff, Nat.reduceEqDiff, ↓reduceIte, reduceCtorEq, Nat.reduceAdd, Nat.reduceMul, Nat.reduceLeDiff, Nat.reduceLT, Int.reduceLT, Int.reduceLE, Int.reduceEq, z0h, z0d, z0p, z1k, z16, z8r]); omega))))); (simp (disch := omega) only [go_sem, Nat.reduceBEq, Nat.reduceBeqDiff, Nat.reduceEqDiff, ↓reduceIte, reduceCtorEq, Nat.reduceAdd, Nat.reduceMul, Nat.reduceLeDiff, Nat.reduceLT, Int.reduceLT, Int.reduceLE, Int.reduceEq, z0h, z0d, z0p, z1k, z16, z8r])) | ((first | refine zqd _ rfl (fun hc => ?_) (fun hc => ?_) | refine zqm _ rfl (fun hc => ?_) (fun hc => ?_)) <;> (first | (cases hc; done) | ((try simp only [z09] at hc); (try (exfalso; omega))))) | refine zqa ?_ | refine zqi ?_ | refine zqb ?_ | refine zqg ?_ | refine zqc ?_ | refine zqk ?_ | refine zql ?_ | refine zqn ?_ | refine zqv ?_ | refine zqw ?_ | refine zqx ?_ | refine zqy ?_ | refine zqz ?_ | refine zs5 rfl ?_ | refine z7e ?_ | refine zqp ?_ | refine zqo ?_ | refine zqu (by (simp (disch := omega) only [go_sem, Nat.reduceBEq, Nat.reduceBeqDiff, Nat.reduceEqDiff, ↓reduceIte, reduceCtorEq, Nat.reduceAdd, Nat.reduceLeDiff, Nat.reduceLT, z0h, z0d, z0p, z1k, z16, z8r]); rfl) rfl ?_ | (refine J _ ?_; clear J K) | (refine zqf (fun hb => ?_) (fun hb => ?_) <;> (have hb2 := hb; try simp only [z09] at hb2) <;> ((first | have F : (_ : Bool) = _ := hb2 | have F := eq_false hb2 | have F := eq_true hb2); (simp (disch := omega) only [go_sem, Nat.reduceBEq, Nat.reduceBeqDiff, Nat.reduceEqDiff, ↓reduceIte, reduceCtorEq, Nat.reduceAdd, Nat.reduceMul, Nat.reduceLeDiff, Nat.reduceLT, Int.reduceLT, Int.reduceLE, Int.reduceEq, hb, F, z0h, z0d, z0p, z1k, z16, z8r]); clear hb F; (try (exfalso; omega)))) | (exfalso; omega))
    all_goals exact z02 (decide_eq_true hne)
  ·rw [Bool.not_eq_true] at hm
   rw [hm] at c2
   repeat' (first | refine zqj ?_ | ((first | refine zqh fun K J => ?_ | refine zqe (by decide +kernel) fun K J => ?_ | refine zqr fun K J => ?_ | refine zqq (by decide +kernel) fun K J => ?_ | refine zqs (c0) ?_ | refine zqt (c0) ?_ | refine zqs (c1) ?_ | refine zqt (c1) ?_ | refine zqs (c2) ?_ | refine zqt (c2) ?_); (simp (disch := omega) only [go_sem, Nat.reduceBEq, Nat.reduceBeqDiff, Nat.reduceEqDiff, ↓reduceIte, reduceCtorEq, Nat.reduceAdd, Nat.reduceMul, Nat.reduceLeDiff, Nat.reduceLT, Int.reduceLT, Int.reduceLE, Int.reduceEq, z0h, z0d, z0p, z1k])) | ((first | refine zqd _ rfl (fun hc => ?_) (fun hc => ?_) | refine zqm _ rfl (fun hc => ?_) (fun hc => ?_)) <;> (first | (cases hc; done) | ((try simp only [z09] at hc); (try (exfalso; omega))))) | refine zqa ?_ | refine zqi ?_ | refine zqb ?_ | refine zqg ?_ | refine zqc ?_ | refine zqk ?_ | refine zql ?_ | refine zqn ?_ | refine zqv ?_ | refine zqw ?_ | refine zqx ?_ | refine zqy ?_ | refine zqz ?_ | refine zs5 rfl ?_ | refine z7e ?_ | refine zqp ?_ | refine zqo ?_ | refine zqu (by (simp (disch := omega) only [go_sem, Nat.reduceBEq, Nat.reduceBeqDiff, Nat.reduceEqDiff, ↓reduceIte, reduceCtorEq, Nat.reduceAdd, Nat.reduceLeDiff, Nat.reduceLT, z0h, z0d, z0p, z1k]); rfl) rfl ?_ | (refine J _ ?_; clear J K) | (refine zqf (fun hb => ?_) (fun hb => ?_) <;> (have hb2 := hb; try simp only [z09] at hb2) <;> ((first | have F : (_ : Bool) = _ := hb2 | have F := eq_false hb2 | have F := eq_true hb2); (simp (disch := omega) only [go_sem, Nat.reduceBEq, Nat.reduceBeqDiff, Nat.reduceEqDiff, ↓reduceIte, reduceCtorEq, Nat.reduceAdd, Nat.reduceMul, Nat.reduceLeDiff, Nat.reduceLT, Int.reduceLT, Int.reduceLE, Int.reduceEq, hb, F, z0h, z0d, z0p, z1k]); clear hb F; (try (exfalso; omega)))) | (exfalso; omega))
   all_goals exact z02 rfl
 ·rw [Bool.not_eq_true] at hf
  rw [hf] at c1
  repeat' (first | refine zqj ?_ | ((first | refine zqh fun K J => ?_ | refine zqe (by decide +kernel) fun K J => ?_ | refine zqr fun K J => ?_ | refine zqq (by decide +kernel) fun K J => ?_ | refine zqs (c0) ?_ | refine zqt (c0) ?_ | refine zqs (c1) ?_ | refine zqt (c1) ?_); (simp (disch := omega) only [go_sem, Nat.reduceBEq, Nat.reduceBeqDiff, Nat.reduceEqDiff, ↓reduceIte, reduceCtorEq, Nat.reduceAdd, Nat.reduceMul, Nat.reduceLeDiff, Nat.reduceLT, Int.reduceLT, Int.reduceLE, Int.reduceEq, z0h, z0d, z0p, z1k])) | ((first | refine zqd _ rfl (fun hc => ?_) (fun hc => ?_) | refine zqm _ rfl (fun hc => ?_) (fun hc => ?_)) <;> (first | (cases hc; done) | ((try simp only [z09] at hc); (try (exfalso; omega))))) | refine zqa ?_ | refine zqi ?_ | refine zqb ?_ | refine zqg ?_ | refine zqc ?_ | refine zqk ?_ | refine zql ?_ | refine zqn ?_ | refine zqv ?_ | refine zqw ?_ | refine zqx ?_ | refine zqy ?_ | refine zqz ?_ | refine zs5 rfl ?_ | refine z7e ?_ | refine zqp ?_ | refine zqo ?_ | refine zqu (by (simp (disch := omega) only [go_sem, Nat.reduceBEq, Nat.reduceBeqDiff, Nat.reduceEqDiff, ↓reduceIte, reduceCtorEq, Nat.reduceAdd, Nat.reduceLeDiff, Nat.reduceLT, z0h, z0d, z0p, z1k]); rfl) rfl ?_ | (refine J _ ?_; clear J K) | (refine zqf (fun hb => ?_) (fun hb => ?_) <;> (have hb2 := hb; try simp only [z09] at hb2) <;> ((first | have F : (_ : Bool) = _ := hb2 | have F := eq_false hb2 | have F := eq_true hb2); (simp (disch := omega) only [go_sem, Nat.reduceBEq, Nat.reduceBeqDiff, Nat.reduceEqDiff, ↓reduceIte, reduceCtorEq, Nat.reduceAdd, Nat.reduceMul, Nat.reduceLeDiff, Nat.reduceLT, Int.reduceLT, Int.reduceLE, Int.reduceEq, hb, F, z0h, z0d, z0p, z1k]); clear hb F; (try (exfalso; omega)))) | (exfalso; omega))
  all_goals exact z02 rfl
end
end Go.Proofs.YtlfohdkfpdkhhaaGreatDoor
