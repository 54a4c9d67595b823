/-
 The walk of unit.every, with any function that is called on each unit; Count and IDs. No condition but lengths.
-/
import Derived.Test.YtkhjpcmpljpmjaaGreatDoorStrs
set_option maxRecDepth 100000
set_option maxHeartbeats 8000000
set_option linter.unusedSimpArgs false
set_option linter.unusedVariables false
namespace Go.Proofs.YtkhjpcmpljpmjaaGreatDoor
open Abs Facts Tr
attribute [local irreducible] awp
namespace Tr
def nodesT (t : T) : List T := recT (fun t l => t :: l.flatten) t
theorem nodesT_eq (t : T) : nodesT t = t :: t.kids.flatMap nodesT := by
 unfold nodesT; rw [recT_eq, List.flatMap]
theorem nodesT_self (t : T) : t ∈ nodesT t := by rw [nodesT_eq]; exact List.mem_cons_self
theorem nodesT_kid {t k x : T} (hk : k ∈ t.kids) (hx : x ∈ nodesT k) : x ∈ nodesT t := by
 rw [nodesT_eq]; exact List.mem_cons_of_mem _ (List.mem_flatMap.2 ⟨k, hk, hx⟩)
variable {σ : Type}
def runS (step : T → σ → Bool × σ) : List T → σ → Bool × σ
 | [], s => (true, s)
 | x :: l, s => if (step x s).1 = true then runS step l (step x s).2 else (false, (step x s).2)
theorem runS_append (step : T → σ → Bool × σ) : ∀ (a b : List T) (s : σ), runS step (a ++ b) s = if (runS step a s).1 = true then runS step b (runS step a s).2 else runS step a s
 | [], b, s => by simp [runS]
 | x :: a, b, s => by
  simp only [List.cons_append, runS]
  split
  ·exact runS_append step a b _
  ·simp
theorem runS_stop (step : T → σ → Bool × σ) {a b : List T} {s : σ} (h : (runS step a s).1 = false) : runS step (a ++ b) s = runS step a s := by
 rw [runS_append, h]; simp
theorem runS_le (step : T → σ → Bool × σ) (m : σ → Nat) (hm : ∀ x s, m (step x s).2 ≤ m s + 1) : ∀ (l : List T) (s : σ), m (runS step l s).2 ≤ m s + l.length
 | [], s => by simp [runS]
 | x :: l, s => by
  have h1 := hm x s
  simp only [runS, List.length_cons]
  split
  ·have := runS_le step m hm l (step x s).2
   omega
  ·simp only; omega
theorem runS_kid (step : T → σ → Bool × σ) {f : T → List T} {l : List T} {i : Nat} {s s2 : σ} (h : i < l.length) (hq : runS step ((l.take i).flatMap f) s = (true, s2)) :
  runS step ((l.take (i + 1)).flatMap f) s = runS step (f l[i]) s2 := by
 rw [List.take_succ_eq_append_getElem h, List.flatMap_append, runS_append, hq]
 simp
theorem runS_halt (step : T → σ → Bool × σ) {f : T → List T} {l : List T} {i : Nat} {s s2 : σ} (hq : runS step ((l.take i).flatMap f) s = (false, s2)) : runS step (l.flatMap f) s = (false, s2) := by
 have : l.flatMap f = (l.take i).flatMap f ++ (l.drop i).flatMap f := by rw [← List.flatMap_append, List.take_append_drop]
 rw [this, runS_stop _ (by rw [hq]), hq]
end Tr
theorem eff_every {σ : Type} {g : FuncId} {cap : List D} {lo : Nat} {I : σ → HM → Prop} (step : T → σ → Bool × σ) (hI : Low lo I) (m : σ → Nat) (M : Nat) (hm : ∀ x s, m (step x s).2 ≤ m s + 1) :
  ∀ u : T, fitB u = true → (∀ x ∈ nodesT u, ∀ s, m s < M → Eff Tryz.prog g (encU x :: cap) lo I s (step x s).2 (.bool (step x s).1)) →
  ∀ s, m s + (nodesT u).length ≤ M → Eff Tryz.prog 122 [encU u, .fn g cap] lo I s (runS step (nodesT u) s).2 (.bool (runS step (nodesT u) s).1) := by
 refine ind1 fun u ih hfit hv s hM => ?_
 obtain ⟨h1, h2, h3, h4⟩ := (fit_iff u).1 hfit
 have ih := fun k hk => ih k hk (h4 k hk) (fun x hx => hv x (nodesT_kid hk hx))
 have hlen : (nodesT u).length = 1 + (u.kids.flatMap nodesT).length := by rw [nodesT_eq, List.length_cons, Nat.add_comm]
 have hv := hv u (nodesT_self u) s (by omega)
 have hm1 := hm u s
 unfold maxLen at h3
 have hrun : runS step (nodesT u) s = if (step u s).1 = true then runS step (u.kids.flatMap nodesT) (step u s).2 else (false, (step u s).2) := by rw [nodesT_eq]; rfl
 rw [hrun]; clear hrun
 generalize step u s = p1 at hv hm1 ⊢
 obtain ⟨b1, s1⟩ := p1
 simp only at hv hm1 ⊢
 refine Eff_intro hI rfl fun H nx hlo hs => ?_
 refine (zqze [] Tryz.func122 rfl (by decide +kernel) mixed (by decide +kernel) (by simp [Tryz.ntmps122]) ?_)
 show awp _ _ (Code.seq _ _) _ _
 skip
 repeat' (first | refine zqj ?_ | ((first | refine zqh fun K hK => ?_ | refine zqe (by decide +kernel) fun K hK => ?_ | refine zqr fun K hK => ?_ | refine zqq (by decide +kernel) fun K hK => ?_); (simp (disch := omega) only [go_sem, Nat.reduceBEq, Nat.reduceBeqDiff, Nat.reduceEqDiff, ↓reduceIte, reduceCtorEq, Nat.reduceAdd, Nat.reduceMul, Nat.reduceLeDiff, Nat.reduceLT, Int.reduceLT, Int.reduceLE, Int.reduceEq])) | ((first | refine zqd _ rfl (fun hc => ?_) (fun hc => ?_) | refine zqm _ rfl (fun hc => ?_) (fun hc => ?_)) <;> (first | (cases hc; done) | ((try simp only [boolS] at hc); (try (exfalso; omega))))) | refine zqa ?_ | refine zqi ?_ | refine zqb ?_ | refine zqg ?_ | refine zqc ?_ | refine zqk ?_ | refine zql ?_ | refine zqn ?_ | refine zqv ?_ | refine zqw ?_ | refine zqx ?_ | refine zqy ?_ | refine zqz ?_ | refine zqza rfl ?_ | refine zqzb ?_ | refine zqp ?_ | refine zqo ?_ | refine zqu (by (simp (disch := omega) only [go_sem, Nat.reduceBEq, Nat.reduceBeqDiff, Nat.reduceEqDiff, ↓reduceIte, reduceCtorEq, Nat.reduceAdd, Nat.reduceLeDiff, Nat.reduceLT]); rfl) rfl ?_ | (refine hK _ ?_; clear hK K) | (refine zqf (fun hb => ?_) (fun hb => ?_) <;> (have hb2 := hb; try simp only [boolS] at hb2) <;> ((first | have hb3 : (_ : Bool) = _ := hb2 | have hb3 := eq_false hb2 | have hb3 := eq_true hb2); (simp (disch := omega) only [go_sem, Nat.reduceBEq, Nat.reduceBeqDiff, Nat.reduceEqDiff, ↓reduceIte, reduceCtorEq, Nat.reduceAdd, Nat.reduceMul, Nat.reduceLeDiff, Nat.reduceLT, Int.reduceLT, Int.reduceLE, Int.reduceEq, hb, hb3]); clear hb hb3; (try (exfalso; omega)))) | (exfalso; omega))
 refine callW_eff hv (by show lo ≤ nx + 1; omega) (hI.loc s H _ (fun id hid => updH_ne (by omega)) hs) fun H1 hs1 hH1 => ?_
 have hb1 : H1 nx = some (.box 27 (cellsU u)) := (hH1 nx hlo).trans updH_eq
 have hk1 : ∀ id, lo ≤ id → id < nx → H1 id = H id := fun id h1 h2 => (hH1 id h1).trans (updH_ne (by omega))
 clear hH1
 (try (simp (disch := omega) only [go_sem, Nat.reduceBEq, Nat.reduceBeqDiff, Nat.reduceEqDiff, ↓reduceIte, reduceCtorEq, Nat.reduceAdd, Nat.reduceMul, Nat.reduceLeDiff, Nat.reduceLT, Int.reduceLT, Int.reduceLE, Int.reduceEq, hb1])); repeat' (first | refine zqj ?_ | ((first | refine zqh fun K hK => ?_ | refine zqe (by decide +kernel) fun K hK => ?_ | refine zqr fun K hK => ?_ | refine zqq (by decide +kernel) fun K hK => ?_); (simp (disch := omega) only [go_sem, Nat.reduceBEq, Nat.reduceBeqDiff, Nat.reduceEqDiff, ↓reduceIte, reduceCtorEq, Nat.reduceAdd, Nat.reduceMul, Nat.reduceLeDiff, Nat.reduceLT, Int.reduceLT, Int.reduceLE, Int.reduceEq, hb1])) | ((first | refine zqd _ rfl (fun hc => ?_) (fun hc => ?_) | refine zqm _ rfl (fun hc => ?_) (fun hc => ?_)) <;> (first | (cases hc; done) | ((try simp only [boolS] at hc); (try (exfalso; omega))))) | refine zqa ?_ | refine zqi ?_ | refine zqb ?_ | refine zqg ?_ | refine zqc ?_ | refine zqk ?_ | refine zql ?_ | refine zqn ?_ | refine zqv ?_ | refine zqw ?_ | refine zqx ?_ | refine zqy ?_ | refine zqz ?_ | refine zqza rfl ?_ | refine zqzb ?_ | refine zqp ?_ | refine zqo ?_ | refine zqu (by (simp (disch := omega) only [go_sem, Nat.reduceBEq, Nat.reduceBeqDiff, Nat.reduceEqDiff, ↓reduceIte, reduceCtorEq, Nat.reduceAdd, Nat.reduceLeDiff, Nat.reduceLT, hb1]); rfl) rfl ?_ | (refine hK _ ?_; clear hK K) | (refine zqf (fun hb => ?_) (fun hb => ?_) <;> (have hb2 := hb; try simp only [boolS] at hb2) <;> ((first | have hb3 : (_ : Bool) = _ := hb2 | have hb3 := eq_false hb2 | have hb3 := eq_true hb2); (simp (disch := omega) only [go_sem, Nat.reduceBEq, Nat.reduceBeqDiff, Nat.reduceEqDiff, ↓reduceIte, reduceCtorEq, Nat.reduceAdd, Nat.reduceMul, Nat.reduceLeDiff, Nat.reduceLT, Int.reduceLT, Int.reduceLE, Int.reduceEq, hb, hb3, hb1]); clear hb hb3; (try (exfalso; omega)))) | (exfalso; omega))
 ·subst hc
  (simp (disch := omega) only [go_sem, Nat.reduceBEq, Nat.reduceBeqDiff, Nat.reduceEqDiff, ↓reduceIte, reduceCtorEq, Nat.reduceAdd, Nat.reduceMul, Nat.reduceLeDiff, Nat.reduceLT, Int.reduceLT, Int.reduceLE, Int.reduceEq])
  exact ⟨hs1, hk1⟩
 ·subst hc
  simp only [if_true]
  (refine zqzc (fun mz st => ∃ (i : _) (si : _), mz = u.kids.length - i ∧ st.t 1 = .fn g cap ∧ st.t 12 = encUs u.kids ∧ st.t 13 = .int .i64 u.kids.length ∧ st.t 14 = .int .i64 i ∧ (i ≤ u.kids.length) ∧ (nx < st.nx) ∧ (I si st.H) ∧ (runS step ((u.kids.take i).flatMap nodesT) s1 = (true, si)) ∧ (∀ id, lo ≤ id → id < nx → st.H id = H id)) ?_ ?_); rotate_left; (rintro mz st ⟨i, si, rfl, q1, q12, q13, q14, qp0, qp1, qp2, qp3, qp4⟩); rotate_left
  ·(refine ⟨_, 0, s1, rfl, ?_⟩); (simp (disch := omega) only [go_sem, Nat.reduceBEq, Nat.reduceBeqDiff, Nat.reduceEqDiff, ↓reduceIte, reduceCtorEq, Nat.reduceAdd, Nat.reduceMul, Nat.reduceLeDiff, Nat.reduceLT, Int.reduceLT, Int.reduceLE, Int.reduceEq, true_and, and_true, and_self, Int.natCast_add, Int.natCast_one, Int.natCast_zero, List.flatMap_nil, List.map_nil, List.append_nil, List.nil_append, encUs])
   exact ⟨by omega, hs1, rfl, hk1⟩
  have ih := fun (h : i < u.kids.length) => ih u.kids[i] (List.getElem_mem h) si
  repeat' (first | refine zqj ?_ | ((first | refine zqh fun K hK => ?_ | refine zqe (by decide +kernel) fun K hK => ?_ | refine zqr fun K hK => ?_ | refine zqq (by decide +kernel) fun K hK => ?_); (simp (disch := omega) only [go_sem, Nat.reduceBEq, Nat.reduceBeqDiff, Nat.reduceEqDiff, ↓reduceIte, reduceCtorEq, Nat.reduceAdd, Nat.reduceMul, Nat.reduceLeDiff, Nat.reduceLT, Int.reduceLT, Int.reduceLE, Int.reduceEq, q1, q12, q13, q14, encUs])) | ((first | refine zqd _ rfl (fun hc => ?_) (fun hc => ?_) | refine zqm _ rfl (fun hc => ?_) (fun hc => ?_)) <;> (first | (cases hc; done) | ((try simp only [boolS] at hc); (try (exfalso; omega))))) | refine zqa ?_ | refine zqi ?_ | refine zqb ?_ | refine zqg ?_ | refine zqc ?_ | refine zqk ?_ | refine zql ?_ | refine zqn ?_ | refine zqv ?_ | refine zqw ?_ | refine zqx ?_ | refine zqy ?_ | refine zqz ?_ | refine zqza rfl ?_ | refine zqzb ?_ | refine zqp ?_ | refine zqo ?_ | refine zqu (by (simp (disch := omega) only [go_sem, Nat.reduceBEq, Nat.reduceBeqDiff, Nat.reduceEqDiff, ↓reduceIte, reduceCtorEq, Nat.reduceAdd, Nat.reduceLeDiff, Nat.reduceLT, q1, q12, q13, q14, encUs]); rfl) rfl ?_ | (refine hK _ ?_; clear hK K) | (refine zqf (fun hb => ?_) (fun hb => ?_) <;> (have hb2 := hb; try simp only [boolS] at hb2) <;> ((first | have hb3 : (_ : Bool) = _ := hb2 | have hb3 := eq_false hb2 | have hb3 := eq_true hb2); (simp (disch := omega) only [go_sem, Nat.reduceBEq, Nat.reduceBeqDiff, Nat.reduceEqDiff, ↓reduceIte, reduceCtorEq, Nat.reduceAdd, Nat.reduceMul, Nat.reduceLeDiff, Nat.reduceLT, Int.reduceLT, Int.reduceLE, Int.reduceEq, hb, hb3, q1, q12, q13, q14, encUs]); clear hb hb3; (try (exfalso; omega)))) | (exfalso; omega))
  ·have hi : i < u.kids.length := by omega
   obtain ⟨b2, s2, e2⟩ : ∃ b2 s2, runS step (nodesT u.kids[i]) si = (b2, s2) := ⟨_, _, rfl⟩
   have ih := ih hi (by
    have h1 := runS_le step m hm ((u.kids.take i).flatMap nodesT) s1
    rw [qp3] at h1
    have h2 : (u.kids.flatMap nodesT).length = ((u.kids.take i).flatMap nodesT).length + ((nodesT u.kids[i]).length + ((u.kids.drop (i + 1)).flatMap nodesT).length) := by
     rw [← List.length_append, ← List.flatMap_cons, List.getElem_cons_drop, ← List.length_append, ← List.flatMap_append, List.take_append_drop]
    simp only at h1
    omega)
   rw [e2] at ih
   have hrun := (runS_kid step hi qp3).trans e2
   refine callW_eff ih (by show lo ≤ st.nx + 1; omega) (hI.loc si st.H _ (fun id hid => (updH_ne (by omega)).trans (updH_ne (by omega))) qp2) fun H2 hs2 hH2 => ?_
   have hk2 : ∀ id, lo ≤ id → id < nx → H2 id = H id := fun id h1 h2 => ((hH2 id h1).trans ((updH_ne (by omega)).trans (updH_ne (by omega)))).trans (qp4 id h1 h2)
   clear hH2
   (try (simp (disch := omega) only [go_sem, Nat.reduceBEq, Nat.reduceBeqDiff, Nat.reduceEqDiff, ↓reduceIte, reduceCtorEq, Nat.reduceAdd, Nat.reduceMul, Nat.reduceLeDiff, Nat.reduceLT, Int.reduceLT, Int.reduceLE, Int.reduceEq, q1, q12, q13, q14])); repeat' (first | refine zqj ?_ | ((first | refine zqh fun K hK => ?_ | refine zqe (by decide +kernel) fun K hK => ?_ | refine zqr fun K hK => ?_ | refine zqq (by decide +kernel) fun K hK => ?_); (simp (disch := omega) only [go_sem, Nat.reduceBEq, Nat.reduceBeqDiff, Nat.reduceEqDiff, ↓reduceIte, reduceCtorEq, Nat.reduceAdd, Nat.reduceMul, Nat.reduceLeDiff, Nat.reduceLT, Int.reduceLT, Int.reduceLE, Int.reduceEq, q1, q12, q13, q14])) | ((first | refine zqd _ rfl (fun hc => ?_) (fun hc => ?_) | refine zqm _ rfl (fun hc => ?_) (fun hc => ?_)) <;> (first | (cases hc; done) | ((try simp only [boolS] at hc); (try (exfalso; omega))))) | refine zqa ?_ | refine zqi ?_ | refine zqb ?_ | refine zqg ?_ | refine zqc ?_ | refine zqk ?_ | refine zql ?_ | refine zqn ?_ | refine zqv ?_ | refine zqw ?_ | refine zqx ?_ | refine zqy ?_ | refine zqz ?_ | refine zqza rfl ?_ | refine zqzb ?_ | refine zqp ?_ | refine zqo ?_ | refine zqu (by (simp (disch := omega) only [go_sem, Nat.reduceBEq, Nat.reduceBeqDiff, Nat.reduceEqDiff, ↓reduceIte, reduceCtorEq, Nat.reduceAdd, Nat.reduceLeDiff, Nat.reduceLT, q1, q12, q13, q14]); rfl) rfl ?_ | (refine hK _ ?_; clear hK K) | (refine zqf (fun hb => ?_) (fun hb => ?_) <;> (have hb2 := hb; try simp only [boolS] at hb2) <;> ((first | have hb3 : (_ : Bool) = _ := hb2 | have hb3 := eq_false hb2 | have hb3 := eq_true hb2); (simp (disch := omega) only [go_sem, Nat.reduceBEq, Nat.reduceBeqDiff, Nat.reduceEqDiff, ↓reduceIte, reduceCtorEq, Nat.reduceAdd, Nat.reduceMul, Nat.reduceLeDiff, Nat.reduceLT, Int.reduceLT, Int.reduceLE, Int.reduceEq, hb, hb3, q1, q12, q13, q14]); clear hb hb3; (try (exfalso; omega)))) | (exfalso; omega))
   ·subst hc
    (simp (disch := omega) only [go_sem, Nat.reduceBEq, Nat.reduceBeqDiff, Nat.reduceEqDiff, ↓reduceIte, reduceCtorEq, Nat.reduceAdd, Nat.reduceMul, Nat.reduceLeDiff, Nat.reduceLT, Int.reduceLT, Int.reduceLE, Int.reduceEq, q1, q12, q13, q14])
    rw [runS_halt step hrun]
    exact ⟨rfl, hs2, hk2⟩
   ·subst hc
    (refine Exists.intro _ (And.intro ?_ ⟨i + 1, s2, rfl, ?_⟩)); rotate_left; (simp (disch := omega) only [go_sem, Nat.reduceBEq, Nat.reduceBeqDiff, Nat.reduceEqDiff, ↓reduceIte, reduceCtorEq, Nat.reduceAdd, Nat.reduceMul, Nat.reduceLeDiff, Nat.reduceLT, Int.reduceLT, Int.reduceLE, Int.reduceEq, q1, q12, q13, q14, true_and, and_true, and_self, Int.natCast_add, Int.natCast_one, Int.natCast_zero, List.flatMap_append, List.flatMap_cons, List.flatMap_nil, List.map_append, List.map_cons, List.map_nil, List.append_nil, List.cons_append, List.nil_append, hrun]); rotate_left
    ·omega
    ·exact ⟨by omega, hs2, hk2⟩
  ·have : u.kids.take i = u.kids := List.take_of_length_le (by omega)
   rw [this] at qp3
   rw [qp3]
   (simp (disch := omega) only [go_sem, Nat.reduceBEq, Nat.reduceBeqDiff, Nat.reduceEqDiff, ↓reduceIte, reduceCtorEq, Nat.reduceAdd, Nat.reduceMul, Nat.reduceLeDiff, Nat.reduceLT, Int.reduceLT, Int.reduceLE, Int.reduceEq, q1, q12, q13, q14])
   exact ⟨qp2, qp4⟩
namespace Tr
def cntT (t : T) : Nat := (nodesT t).length
def idsT (t : T) : List Idv := (nodesT t).map T.id
theorem runS_all (f : T → Bool) : ∀ (l : List T) (s : Unit), runS (fun x s => (f x, s)) l s = (l.all f, ())
 | [], _ => rfl
 | x :: l, s => by
  simp only [runS, List.all_cons]
  cases f x <;> simp [runS_all f l]
theorem runS_len : ∀ (l : List T) (n : Nat), runS (fun _ n => (true, n + 1)) l n = (true, n + l.length)
 | [], _ => rfl
 | x :: l, n => by simp only [runS, if_true, runS_len l, List.length_cons]; congr 1; omega
theorem runS_ids : ∀ (l : List T) (a : List Idv), runS (fun x a => (true, a ++ [x.id])) l a = (true, a ++ l.map T.id)
 | [], a => by simp [runS]
 | x :: l, a => by simp [runS, runS_ids l]
end Tr
theorem low_true (lo : Nat) (hz : lo = 0) : Low lo (fun (_ : Unit) (_ : HM) => True) := ⟨fun _ _ _ _ h => h, fun _ _ _ id o h _ => by omega⟩
theorem pc_every {g : FuncId} {cap : List D} (f : T → Bool) (hc : pureD.pureL cap = true) (u : T) (hfit : fitB u = true) (hv : ∀ x ∈ nodesT u, PC Tryz.prog g (encU x :: cap) (.bool (f x))) :
  PC Tryz.prog 122 [encU u, .fn g cap] (.bool ((nodesT u).all f)) := by
 have h := eff_every (fun x (s : Unit) => (f x, s)) (low_true 0 rfl) (fun _ => 0) (nodesT u).length (fun _ _ => by simp) u hfit (fun x hx s _ => (hv x hx).eff s) () (by simp)
 rw [runS_all] at h
 exact ⟨by simp only [pureD.pureL, pure_encU, pureD, hc, Bool.and_self], rfl, (h noH 0 (Nat.le_refl _) trivial).mono fun _ _ _ h => h.1⟩
def objsC (u : T) (n : Nat) : List HObj := [.box 27 (cellsU u), .box 3 [.int .i64 (IntKind.i64.wrap n)]]
def objsI (u : T) (l : List Idv) : List HObj := [.box 27 (cellsU u), .box 60 [.osl 2 l.length], .row 23 l.length (l.flatMap cellsId)]
theorem low_cellsU (n : Nat) (u : T) : lowD.lowL n (cellsU u) = true := lowL_pure n _ (pure_cellsU u)
theorem low_C (u : T) : Low 2 fun n H => ∀ j, j < 2 → H j = (objsC u n)[j]? := low_list (objsC u) (fun _ => rfl) fun n o ho => by
 simp only [objsC, List.mem_cons, List.not_mem_nil, or_false] at ho
 rcases ho with rfl | rfl
 ·exact low_cellsU _ _
 ·rfl
theorem low_I (u : T) : Low 3 fun l H => ∀ j, j < 3 → H j = (objsI u l)[j]? := low_list (objsI u) (fun _ => rfl) fun l o ho => by
 simp only [objsI, List.mem_cons, List.not_mem_nil, or_false] at ho
 rcases ho with rfl | rfl | rfl
 ·exact low_cellsU _ _
 ·rfl
 ·exact lowL_pure _ _ (pureL_flatMap (fun _ => rfl) l)
theorem eff_Count1 (u x : T) (n : Nat) : Eff Tryz.prog 124 [encU x, .ptr 1 0] 2 (fun n H => ∀ j, j < 2 → H j = (objsC u n)[j]?) n (n + 1) (.bool true) := by
 refine Eff_intro (low_C u) rfl fun H nx hlo hs => ?_
 have h1 : H 1 = some (.box 3 [.int .i64 (IntKind.i64.wrap n)]) := hs 1 (by omega)
 have h0 : H 0 = some (.box 27 (cellsU u)) := hs 0 (by omega)
 have hne : (1 == nx) = false := by simp; omega
 have hne' : (0 == nx) = false := by simp; omega
 refine (zqze [] Tryz.func124 rfl (by decide +kernel) mixed (by decide +kernel) (by simp [Tryz.ntmps124]) ?_)
 show awp _ _ (Code.seq _ _) _ _
 skip
 repeat' (first | refine zqj ?_ | ((first | refine zqh fun K hK => ?_ | refine zqe (by decide +kernel) fun K hK => ?_ | refine zqr fun K hK => ?_ | refine zqq (by decide +kernel) fun K hK => ?_); (simp (disch := omega) only [go_sem, Nat.reduceBEq, Nat.reduceBeqDiff, Nat.reduceEqDiff, ↓reduceIte, reduceCtorEq, Nat.reduceAdd, Nat.reduceMul, Nat.reduceLeDiff, Nat.reduceLT, Int.reduceLT, Int.reduceLE, Int.reduceEq, h1, hne])) | ((first | refine zqd _ rfl (fun hc => ?_) (fun hc => ?_) | refine zqm _ rfl (fun hc => ?_) (fun hc => ?_)) <;> (first | (cases hc; done) | ((try simp only [boolS] at hc); (try (exfalso; omega))))) | refine zqa ?_ | refine zqi ?_ | refine zqb ?_ | refine zqg ?_ | refine zqc ?_ | refine zqk ?_ | refine zql ?_ | refine zqn ?_ | refine zqv ?_ | refine zqw ?_ | refine zqx ?_ | refine zqy ?_ | refine zqz ?_ | refine zqza rfl ?_ | refine zqzb ?_ | refine zqp ?_ | refine zqo ?_ | refine zqu (by (simp (disch := omega) only [go_sem, Nat.reduceBEq, Nat.reduceBeqDiff, Nat.reduceEqDiff, ↓reduceIte, reduceCtorEq, Nat.reduceAdd, Nat.reduceLeDiff, Nat.reduceLT, h1, hne]); rfl) rfl ?_ | (refine hK _ ?_; clear hK K) | (refine zqf (fun hb => ?_) (fun hb => ?_) <;> (have hb2 := hb; try simp only [boolS] at hb2) <;> ((first | have hb3 : (_ : Bool) = _ := hb2 | have hb3 := eq_false hb2 | have hb3 := eq_true hb2); (simp (disch := omega) only [go_sem, Nat.reduceBEq, Nat.reduceBeqDiff, Nat.reduceEqDiff, ↓reduceIte, reduceCtorEq, Nat.reduceAdd, Nat.reduceMul, Nat.reduceLeDiff, Nat.reduceLT, Int.reduceLT, Int.reduceLE, Int.reduceEq, hb, hb3, h1, hne]); clear hb hb3; (try (exfalso; omega)))) | (exfalso; omega))
 (simp (disch := omega) only [go_sem, Nat.reduceBEq, Nat.reduceBeqDiff, Nat.reduceEqDiff, ↓reduceIte, reduceCtorEq, Nat.reduceAdd, Nat.reduceMul, Nat.reduceLeDiff, Nat.reduceLT, Int.reduceLT, Int.reduceLE, Int.reduceEq, h1, hne, hne'])
 refine ⟨fun j hj => ?_, fun id h1 h2 => ?_⟩
 ·match j, hj with
  | 0, _ => simp [hne', h0, objsC]
  | 1, _ => simp [objsC]; simp only [IntKind.wrap_i64]; omega
 ·rw [show (id == 1) = false from by simp; omega, show (id == nx) = false from by simp; omega]; rfl
theorem eff_IDs1 (u x : T) (l : List Idv) (hl : l.length < 5000000000000) : Eff Tryz.prog 123 [encU x, .ptr 1 0] 3 (fun l H => ∀ j, j < 3 → H j = (objsI u l)[j]?) l (l ++ [x.id]) (.bool true) := by
 refine Eff_intro (low_I u) rfl fun H nx hlo hs => ?_
 have h1 : H 1 = some (.box 60 [.osl 2 l.length]) := hs 1 (by omega)
 have h0 : H 0 = some (.box 27 (cellsU u)) := hs 0 (by omega)
 have h2 : H 2 = some (.row 23 l.length (l.flatMap cellsId)) := hs 2 (by omega)
 have hne : (1 == nx) = false := by simp; omega
 have hne' : (0 == nx) = false := by simp; omega
 have hne2 : (2 == nx) = false := by simp; omega
 refine (zqze [] Tryz.func123 rfl (by decide +kernel) mixed (by decide +kernel) (by simp [Tryz.ntmps123]) ?_)
 show awp _ _ (Code.seq _ _) _ _
 skip
 repeat' (first | refine zqj ?_ | ((first | refine zqh fun K hK => ?_ | refine zqe (by decide +kernel) fun K hK => ?_ | refine zqr fun K hK => ?_ | refine zqq (by decide +kernel) fun K hK => ?_); (simp (disch := omega) only [go_sem, Nat.reduceBEq, Nat.reduceBeqDiff, Nat.reduceEqDiff, ↓reduceIte, reduceCtorEq, Nat.reduceAdd, Nat.reduceMul, Nat.reduceLeDiff, Nat.reduceLT, Int.reduceLT, Int.reduceLE, Int.reduceEq, h1, h2, hne, hne2])) | ((first | refine zqd _ rfl (fun hc => ?_) (fun hc => ?_) | refine zqm _ rfl (fun hc => ?_) (fun hc => ?_)) <;> (first | (cases hc; done) | ((try simp only [boolS] at hc); (try (exfalso; omega))))) | refine zqa ?_ | refine zqi ?_ | refine zqb ?_ | refine zqg ?_ | refine zqc ?_ | refine zqk ?_ | refine zql ?_ | refine zqn ?_ | refine zqv ?_ | refine zqw ?_ | refine zqx ?_ | refine zqy ?_ | refine zqz ?_ | refine zqza rfl ?_ | refine zqzb ?_ | refine zqp ?_ | refine zqo ?_ | refine zqu (by (simp (disch := omega) only [go_sem, Nat.reduceBEq, Nat.reduceBeqDiff, Nat.reduceEqDiff, ↓reduceIte, reduceCtorEq, Nat.reduceAdd, Nat.reduceLeDiff, Nat.reduceLT, h1, h2, hne, hne2]); rfl) rfl ?_ | (refine hK _ ?_; clear hK K) | (refine zqf (fun hb => ?_) (fun hb => ?_) <;> (have hb2 := hb; try simp only [boolS] at hb2) <;> ((first | have hb3 : (_ : Bool) = _ := hb2 | have hb3 := eq_false hb2 | have hb3 := eq_true hb2); (simp (disch := omega) only [go_sem, Nat.reduceBEq, Nat.reduceBeqDiff, Nat.reduceEqDiff, ↓reduceIte, reduceCtorEq, Nat.reduceAdd, Nat.reduceMul, Nat.reduceLeDiff, Nat.reduceLT, Int.reduceLT, Int.reduceLE, Int.reduceEq, hb, hb3, h1, h2, hne, hne2]); clear hb hb3; (try (exfalso; omega)))) | (exfalso; omega))
 (simp (disch := omega) only [go_sem, Nat.reduceBEq, Nat.reduceBeqDiff, Nat.reduceEqDiff, ↓reduceIte, reduceCtorEq, Nat.reduceAdd, Nat.reduceMul, Nat.reduceLeDiff, Nat.reduceLT, Int.reduceLT, Int.reduceLE, Int.reduceEq, h1, h2, hne, hne2, hne'])
 refine ⟨fun j hj => ?_, fun id h1 h2 => ?_⟩
 ·match j, hj with
  | 0, _ => simp [hne', h0, objsI]
  | 1, _ => simp [objsI]
  | 2, _ => simp [objsI, cellsId]
 ·rw [show (id == 1) = false from by simp; omega, show (id == 2) = false from by simp; omega, show (id == nx) = false from by simp; omega]; rfl
theorem pc_Count (u : T) (hfit : fitB u = true) (hs : cntT u ≤ 1000000000) : PC Tryz.prog 85 [encU u] (.int .i64 (cntT u)) := by
 refine zqzd 1 (by simp only [pureD.pureL, pure_encU, pureD, Bool.and_self]) rfl (zqze [] Tryz.func85 rfl (by decide +kernel) mixed (by decide +kernel) (by simp [Tryz.ntmps85]) ?_)
 show awp _ _ (Code.seq _ _) _ _
 skip
 repeat' (first | refine zqj ?_ | ((first | refine zqh fun K hK => ?_ | refine zqe (by decide +kernel) fun K hK => ?_ | refine zqr fun K hK => ?_ | refine zqq (by decide +kernel) fun K hK => ?_); (simp (disch := omega) only [go_sem, Nat.reduceBEq, Nat.reduceBeqDiff, Nat.reduceEqDiff, ↓reduceIte, reduceCtorEq, Nat.reduceAdd, Nat.reduceMul, Nat.reduceLeDiff, Nat.reduceLT, Int.reduceLT, Int.reduceLE, Int.reduceEq])) | ((first | refine zqd _ rfl (fun hc => ?_) (fun hc => ?_) | refine zqm _ rfl (fun hc => ?_) (fun hc => ?_)) <;> (first | (cases hc; done) | ((try simp only [boolS] at hc); (try (exfalso; omega))))) | refine zqa ?_ | refine zqi ?_ | refine zqb ?_ | refine zqg ?_ | refine zqc ?_ | refine zqk ?_ | refine zql ?_ | refine zqn ?_ | refine zqv ?_ | refine zqw ?_ | refine zqx ?_ | refine zqy ?_ | refine zqz ?_ | refine zqza rfl ?_ | refine zqzb ?_ | refine zqp ?_ | refine zqo ?_ | refine zqu (by (simp (disch := omega) only [go_sem, Nat.reduceBEq, Nat.reduceBeqDiff, Nat.reduceEqDiff, ↓reduceIte, reduceCtorEq, Nat.reduceAdd, Nat.reduceLeDiff, Nat.reduceLT]); rfl) rfl ?_ | (refine hK _ ?_; clear hK K) | (refine zqf (fun hb => ?_) (fun hb => ?_) <;> (have hb2 := hb; try simp only [boolS] at hb2) <;> ((first | have hb3 : (_ : Bool) = _ := hb2 | have hb3 := eq_false hb2 | have hb3 := eq_true hb2); (simp (disch := omega) only [go_sem, Nat.reduceBEq, Nat.reduceBeqDiff, Nat.reduceEqDiff, ↓reduceIte, reduceCtorEq, Nat.reduceAdd, Nat.reduceMul, Nat.reduceLeDiff, Nat.reduceLT, Int.reduceLT, Int.reduceLE, Int.reduceEq, hb, hb3]); clear hb hb3; (try (exfalso; omega)))) | (exfalso; omega))
 have h := eff_every (fun _ n => (true, n + 1)) (low_C u) (fun _ => 0) (nodesT u).length (fun _ _ => by simp) u hfit (fun x _ n _ => eff_Count1 u x n) 0 (by simp)
 rw [runS_len] at h
 refine callW_eff h (Nat.le_refl _) (fun j hj => ?_) fun H1 hs1 _ => ?_
 ·match j, hj with
  | 0, _ => rfl
  | 1, _ => rfl
 ·have h1 : H1 1 = some (.box 3 [.int .i64 (IntKind.i64.wrap ((0 + (nodesT u).length : Nat) : Int))]) := hs1 1 (by omega)
  (try (simp (disch := omega) only [go_sem, Nat.reduceBEq, Nat.reduceBeqDiff, Nat.reduceEqDiff, ↓reduceIte, reduceCtorEq, Nat.reduceAdd, Nat.reduceMul, Nat.reduceLeDiff, Nat.reduceLT, Int.reduceLT, Int.reduceLE, Int.reduceEq, h1])); repeat' (first | refine zqj ?_ | ((first | refine zqh fun K hK => ?_ | refine zqe (by decide +kernel) fun K hK => ?_ | refine zqr fun K hK => ?_ | refine zqq (by decide +kernel) fun K hK => ?_); (simp (disch := omega) only [go_sem, Nat.reduceBEq, Nat.reduceBeqDiff, Nat.reduceEqDiff, ↓reduceIte, reduceCtorEq, Nat.reduceAdd, Nat.reduceMul, Nat.reduceLeDiff, Nat.reduceLT, Int.reduceLT, Int.reduceLE, Int.reduceEq, h1])) | ((first | refine zqd _ rfl (fun hc => ?_) (fun hc => ?_) | refine zqm _ rfl (fun hc => ?_) (fun hc => ?_)) <;> (first | (cases hc; done) | ((try simp only [boolS] at hc); (try (exfalso; omega))))) | refine zqa ?_ | refine zqi ?_ | refine zqb ?_ | refine zqg ?_ | refine zqc ?_ | refine zqk ?_ | refine zql ?_ | refine zqn ?_ | refine zqv ?_ | refine zqw ?_ | refine zqx ?_ | refine zqy ?_ | refine zqz ?_ | refine zqza rfl ?_ | refine zqzb ?_ | refine zqp ?_ | refine zqo ?_ | refine zqu (by (simp (disch := omega) only [go_sem, Nat.reduceBEq, Nat.reduceBeqDiff, Nat.reduceEqDiff, ↓reduceIte, reduceCtorEq, Nat.reduceAdd, Nat.reduceLeDiff, Nat.reduceLT, h1]); rfl) rfl ?_ | (refine hK _ ?_; clear hK K) | (refine zqf (fun hb => ?_) (fun hb => ?_) <;> (have hb2 := hb; try simp only [boolS] at hb2) <;> ((first | have hb3 : (_ : Bool) = _ := hb2 | have hb3 := eq_false hb2 | have hb3 := eq_true hb2); (simp (disch := omega) only [go_sem, Nat.reduceBEq, Nat.reduceBeqDiff, Nat.reduceEqDiff, ↓reduceIte, reduceCtorEq, Nat.reduceAdd, Nat.reduceMul, Nat.reduceLeDiff, Nat.reduceLT, Int.reduceLT, Int.reduceLE, Int.reduceEq, hb, hb3, h1]); clear hb hb3; (try (exfalso; omega)))) | (exfalso; omega))
  refine fin_int ?_
  exact wrapI (by unfold cntT at hs; omega)
theorem pc_IDs (u : T) (hfit : fitB u = true) (hs : cntT u ≤ 5000000000000) : PC Tryz.prog 82 [encU u] (encIds (idsT u)) := by
 refine zqzd 2 (by simp only [pureD.pureL, pure_encU, pureD, Bool.and_self]) (pure_encIds _) (zqze [] Tryz.func82 rfl (by decide +kernel) mixed (by decide +kernel) (by simp [Tryz.ntmps82]) ?_)
 show awp _ _ (Code.seq _ _) _ _
 skip
 (refine zqh fun K hK => ?_); (simp only [go_sem, Nat.reduceBEq, Nat.reduceBeqDiff, Nat.reduceEqDiff, ↓reduceIte, reduceCtorEq, Nat.reduceAdd, Nat.reduceMul, Nat.reduceLeDiff, Nat.reduceLT, Int.reduceLT, Int.reduceLE, Int.reduceEq]); (refine hK _ ?_); (clear hK K)
 refine awp_seq_seal fun K hK => ?_
 (simp (disch := omega) only [go_sem, Nat.reduceBEq, Nat.reduceBeqDiff, Nat.reduceEqDiff, ↓reduceIte, reduceCtorEq, Nat.reduceAdd, Nat.reduceMul, Nat.reduceLeDiff, Nat.reduceLT, Int.reduceLT, Int.reduceLE, Int.reduceEq])
 refine hK _ _ (nilbox_to (b := 1) (e := 60) 23 (by (simp (disch := omega) only [go_sem, Nat.reduceBEq, Nat.reduceBeqDiff, Nat.reduceEqDiff, ↓reduceIte, reduceCtorEq, Nat.reduceAdd, Nat.reduceMul, Nat.reduceLeDiff, Nat.reduceLT, Int.reduceLT, Int.reduceLE, Int.reduceEq]))) ?_
 clear hK K
 repeat' (first | refine zqj ?_ | ((first | refine zqh fun K hK => ?_ | refine zqe (by decide +kernel) fun K hK => ?_ | refine zqr fun K hK => ?_ | refine zqq (by decide +kernel) fun K hK => ?_); (simp (disch := omega) only [go_sem, Nat.reduceBEq, Nat.reduceBeqDiff, Nat.reduceEqDiff, ↓reduceIte, reduceCtorEq, Nat.reduceAdd, Nat.reduceMul, Nat.reduceLeDiff, Nat.reduceLT, Int.reduceLT, Int.reduceLE, Int.reduceEq])) | ((first | refine zqd _ rfl (fun hc => ?_) (fun hc => ?_) | refine zqm _ rfl (fun hc => ?_) (fun hc => ?_)) <;> (first | (cases hc; done) | ((try simp only [boolS] at hc); (try (exfalso; omega))))) | refine zqa ?_ | refine zqi ?_ | refine zqb ?_ | refine zqg ?_ | refine zqc ?_ | refine zqk ?_ | refine zql ?_ | refine zqn ?_ | refine zqv ?_ | refine zqw ?_ | refine zqx ?_ | refine zqy ?_ | refine zqz ?_ | refine zqza rfl ?_ | refine zqzb ?_ | refine zqp ?_ | refine zqo ?_ | refine zqu (by (simp (disch := omega) only [go_sem, Nat.reduceBEq, Nat.reduceBeqDiff, Nat.reduceEqDiff, ↓reduceIte, reduceCtorEq, Nat.reduceAdd, Nat.reduceLeDiff, Nat.reduceLT]); rfl) rfl ?_ | (refine hK _ ?_; clear hK K) | (refine zqf (fun hb => ?_) (fun hb => ?_) <;> (have hb2 := hb; try simp only [boolS] at hb2) <;> ((first | have hb3 : (_ : Bool) = _ := hb2 | have hb3 := eq_false hb2 | have hb3 := eq_true hb2); (simp (disch := omega) only [go_sem, Nat.reduceBEq, Nat.reduceBeqDiff, Nat.reduceEqDiff, ↓reduceIte, reduceCtorEq, Nat.reduceAdd, Nat.reduceMul, Nat.reduceLeDiff, Nat.reduceLT, Int.reduceLT, Int.reduceLE, Int.reduceEq, hb, hb3]); clear hb hb3; (try (exfalso; omega)))) | (exfalso; omega))
 have h := eff_every (fun x l => (true, l ++ [x.id])) (low_I u) List.length (nodesT u).length (fun x l => by simp) u hfit (fun x _ l hl => eff_IDs1 u x l (by unfold cntT at hs; omega)) [] (by simp)
 rw [runS_ids] at h
 refine callW_eff h (Nat.le_refl _) (fun j hj => ?_) fun H1 hs1 _ => ?_
 ·match j, hj with
  | 0, _ => rfl
  | 1, _ => rfl
  | 2, _ => rfl
 ·have h1 : H1 1 = some (.box 60 [.osl 2 (idsT u).length]) := hs1 1 (by omega)
  have h2 : H1 2 = some (.row 23 (idsT u).length ((idsT u).flatMap cellsId)) := hs1 2 (by omega)
  (try (simp (disch := omega) only [go_sem, Nat.reduceBEq, Nat.reduceBeqDiff, Nat.reduceEqDiff, ↓reduceIte, reduceCtorEq, Nat.reduceAdd, Nat.reduceMul, Nat.reduceLeDiff, Nat.reduceLT, Int.reduceLT, Int.reduceLE, Int.reduceEq, h1])); repeat' (first | refine zqj ?_ | ((first | refine zqh fun K hK => ?_ | refine zqe (by decide +kernel) fun K hK => ?_ | refine zqr fun K hK => ?_ | refine zqq (by decide +kernel) fun K hK => ?_); (simp (disch := omega) only [go_sem, Nat.reduceBEq, Nat.reduceBeqDiff, Nat.reduceEqDiff, ↓reduceIte, reduceCtorEq, Nat.reduceAdd, Nat.reduceMul, Nat.reduceLeDiff, Nat.reduceLT, Int.reduceLT, Int.reduceLE, Int.reduceEq, h1])) | ((first | refine zqd _ rfl (fun hc => ?_) (fun hc => ?_) | refine zqm _ rfl (fun hc => ?_) (fun hc => ?_)) <;> (first | (cases hc; done) | ((try simp only [boolS] at hc); (try (exfalso; omega))))) | refine zqa ?_ | refine zqi ?_ | refine zqb ?_ | refine zqg ?_ | refine zqc ?_ | refine zqk ?_ | refine zql ?_ | refine zqn ?_ | refine zqv ?_ | refine zqw ?_ | refine zqx ?_ | refine zqy ?_ | refine zqz ?_ | refine zqza rfl ?_ | refine zqzb ?_ | refine zqp ?_ | refine zqo ?_ | refine zqu (by (simp (disch := omega) only [go_sem, Nat.reduceBEq, Nat.reduceBeqDiff, Nat.reduceEqDiff, ↓reduceIte, reduceCtorEq, Nat.reduceAdd, Nat.reduceLeDiff, Nat.reduceLT, h1]); rfl) rfl ?_ | (refine hK _ ?_; clear hK K) | (refine zqf (fun hb => ?_) (fun hb => ?_) <;> (have hb2 := hb; try simp only [boolS] at hb2) <;> ((first | have hb3 : (_ : Bool) = _ := hb2 | have hb3 := eq_false hb2 | have hb3 := eq_true hb2); (simp (disch := omega) only [go_sem, Nat.reduceBEq, Nat.reduceBeqDiff, Nat.reduceEqDiff, ↓reduceIte, reduceCtorEq, Nat.reduceAdd, Nat.reduceMul, Nat.reduceLeDiff, Nat.reduceLT, Int.reduceLT, Int.reduceLE, Int.reduceEq, hb, hb3, h1]); clear hb hb3; (try (exfalso; omega)))) | (exfalso; omega))
  refine fin_of ?_
  exact sealD_rowAgg 0 h2 isAggT23 sizeT23 (fun _ => rfl) (fun _ => rfl)
end Go.Proofs.YtkhjpcmpljpmjaaGreatDoor
