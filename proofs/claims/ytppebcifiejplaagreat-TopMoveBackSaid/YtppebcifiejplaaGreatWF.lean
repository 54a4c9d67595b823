import Derived.Test.YtppebcifiejplaaGreatWE
/-
 Lemmas of the claim. No condition but those that each names.
-/
set_option linter.unusedSimpArgs false
set_option linter.unusedVariables false
set_option maxHeartbeats 8000000
set_option linter.unusedSectionVars false
namespace Go.Proofs.YtppebcifiejplaaGreat
section
open Abs Facts Tr
attribute [local irreducible] awp
set_option maxRecDepth 100000
theorem zmv (s : Stp) : PC Tryz.prog 102 [z77 s] (.bool (zd3 s)) := by
 refine z1y 1 rfl rfl (z1w [] Tryz.func102 rfl (by decide +kernel) z0j (by decide +kernel) (by simp [Tryz.ntmps102]) ?_)
 show awp _ _ (Code.seq _ _) _ _
 repeat' (first | ((refine zqh fun K J => ?_); (simp (disch := omega) only [go_sem, Nat.reduceBEq, ↓reduceIte, reduceCtorEq, Nat.reduceAdd])) | refine zqn ?_ | refine zqu (by (simp (disch := omega) only [go_sem]); rfl) rfl ?_ | (refine J _ ?_; clear J K) | (refine zqf (fun hb => ?_) (fun hb => ?_) <;> (have hb2 := hb; try simp only [z03] at hb2) <;> ((first | have F := eq_false hb2 | have F := eq_true hb2); (simp (disch := omega) only [go_sem, Nat.reduceBEq, ↓reduceIte, reduceCtorEq, Nat.reduceAdd, F]); clear hb F; (try (exfalso; omega)))))
 all_goals exact z00 (by unfold zd3 z1j; first | (simp_all; done) | (simp_all; exact decide_eq_decide.2 Iff.rfl))
theorem zet (u : T) (s : Stp) : PC Tryz.prog 105 [z17 u, z77 s] (.bool (atB s u)) := by
 refine z1y 1 (by simp only [pureD.pureL, z05]; rfl) rfl (z1w [] Tryz.func105 rfl (by decide +kernel) z0j (by decide +kernel) (by simp [Tryz.ntmps105]) ?_)
 show awp _ _ (Code.seq _ _) _ _
 repeat' (first | ((refine zqh fun K J => ?_); (simp (disch := omega) only [go_sem, Nat.reduceBEq, ↓reduceIte, reduceCtorEq, Nat.reduceAdd])) | refine zqn ?_ | refine zqu (by (simp (disch := omega) only [go_sem]); rfl) rfl ?_ | (refine J _ ?_; clear J K) | (refine zqf (fun hb => ?_) (fun hb => ?_) <;> (have hb2 := hb; try simp only [z03] at hb2) <;> ((first | have F := eq_false hb2 | have F := eq_true hb2); (simp (disch := omega) only [go_sem, Nat.reduceBEq, ↓reduceIte, reduceCtorEq, Nat.reduceAdd, F]); clear hb F; (try (exfalso; omega)))))
 all_goals exact z00 (by unfold atB; first | (simp_all; done) | (simp_all; exact decide_eq_decide.2 Iff.rfl))
theorem zt3 (p : List Stp) (hl : p.length <= maxLen) (hs : ∀ s ∈ p, s.label.size <= maxLen) : PC Tryz.prog 101 [z0a p] (.bool (z5e p)) := by
 unfold maxLen at hl
 have c1 := fun (i : Nat) (h : i < p.length) => zmv p[i]
 have c2 := fun (i : Nat) (h : i < p.length) => zht p[i].label (hs _ (List.getElem_mem h))
 refine z1y 1 (by simp only [pureD.pureL, z0r, Bool.and_self]) rfl (z1w [] Tryz.func101 rfl (by decide +kernel) z0j (by decide +kernel) (by simp [Tryz.ntmps101]) ?_)
 show awp _ _ (Code.seq _ _) _ _
 repeat' (first | refine zqj ?_ | ((refine zqh fun K J => ?_); (simp (disch := omega) only [go_sem, Nat.reduceBEq, z0a])) | refine zqa ?_ | (refine J _ ?_; clear J K))
 (refine z37 (fun U st => ∃ (k : _), U = p.length - k /\ st.t 0 = z0a p /\ st.t 5 = z0a p /\ st.t 6 = .int .i64 p.length /\ st.t 7 = .int .i64 k /\ (k <= p.length) /\ (∀ i, (hi : i < k) -> (h : i < p.length) -> okS i p[i] = true)) ?_ ?_); rotate_left; (rintro U st ⟨k, rfl, q0, q5, q6, q7, qp0, qp1⟩); rotate_left
 ·(refine ⟨_, 0, rfl, ?_⟩); (simp (disch := omega) only [go_sem, Nat.reduceBEq, true_and, Int.natCast_zero, z0a])
  exact fun i hi => by omega
 by_cases hk : k < p.length
 ·have step : okS k p[k] = true -> ∀ i, (hi : i < k + 1) -> (h : i < p.length) -> okS i p[i] = true := fun hb i hi h => by
   by_cases e : i = k
   ·subst e; exact hb
   ·exact qp1 i (by omega) h
  repeat' (first | refine zqj ?_ | ((first | refine zqh fun K J => ?_ | refine zqr fun K J => ?_ | refine zqs (c1 k hk) ?_ | refine zqs (c2 k hk) ?_); (simp (disch := omega) only [go_sem, Nat.reduceBEq, ↓reduceIte, reduceCtorEq, Nat.reduceAdd, Nat.reduceLeDiff, q5, q6, q7, z0a])) | ((first | refine zqd _ rfl (fun hc => ?_) (fun hc => ?_) | refine zqm _ rfl (fun hc => ?_) (fun hc => ?_)) <;> (first | (cases hc; done) | ((try simp only [z03] at hc); (try (exfalso; omega))))) | refine zqa ?_ | refine zqb ?_ | refine zqc ?_ | refine zqk ?_ | refine zqn ?_ | refine zqv ?_ | refine zqx ?_ | refine zqy ?_ | refine zqz ?_ | refine z4a ?_ | refine zqo ?_ | refine zqu (by (simp (disch := omega) only [go_sem]); rfl) rfl ?_ | (refine J _ ?_; clear J K) | (refine zqf (fun hb => ?_) (fun hb => ?_) <;> (have hb2 := hb; try simp only [z03] at hb2) <;> ((first | have F := eq_false hb2 | have F := eq_true hb2); (simp (disch := omega) only [go_sem, Nat.reduceBEq, ↓reduceIte, reduceCtorEq, Nat.reduceAdd, Nat.reduceLeDiff, F]); clear hb F; (try (exfalso; omega)))))
  all_goals first
   | exact z00 (znh hk (zxc (by first | (left; omega) | (right; assumption)) (by first | (left; omega) | (right; left; omega) | (right; right; assumption)))).symm
   | skip
  all_goals
   (refine Exists.intro _ (And.intro ?_ ⟨k + 1, rfl, ?_⟩)); rotate_left; (simp (disch := omega) only [go_sem, Nat.reduceBEq, q0, q5, q6, q7, true_and, Int.natCast_add, Int.natCast_one]); rotate_left
   ·omega
   ·exact ⟨by omega, step (by first | exact zm9 (by omega) (by assumption) | exact zma (by omega) (by omega) (by assumption))⟩
 ·repeat' (first | ((refine zqh fun K J => ?_); (simp (disch := omega) only [go_sem, Nat.reduceBEq, ↓reduceIte, q0, q6, q7, z0a])) | ((refine zqd _ rfl (fun hc => ?_) (fun hc => ?_)) <;> (((try simp only [z03] at hc); (try (exfalso; omega))))) | refine zqc ?_ | refine zqn ?_ | refine zqv ?_ | refine zqz ?_ | refine zqp ?_ | refine zqu (by (simp (disch := omega) only [go_sem]); rfl) rfl ?_ | (refine J _ ?_; clear J K))
  refine z00 ?_
  unfold z5e
  rw [decide_eq_true (p := ∀ i, (h : i < p.length) -> okS i p[i] = true) fun i hi => qp1 i (by omega) hi, Bool.and_true]
  simp only [decide_eq_decide]; omega
theorem zwf {σ : Type} {g : FuncId} {cap : List D} {lo : Nat} {I : σ -> HM -> Prop} (step : T -> σ -> σ) (hI : Low lo I) (m : σ -> Nat) (M : Nat) (hm : ∀ x s, m (step x s) <= m s + 1) :
  ∀ u : T, fitB u = true -> (∀ x ∈ z09 u, ∀ s, m s < M -> Eff Tryz.prog g (z17 x :: cap) lo I s (step x s) (.tup [])) ->
  ∀ s, m s + (z09 u).length <= M -> Eff Tryz.prog 103 [z17 u, .fn g cap] lo I s ((z09 u).foldl (fun s x => step x s) s) (.tup []) := by
 refine z3u fun u ih hfit hv s hM => ?_
 obtain ⟨h1, h2, h3, h4⟩ := (zbl u).1 hfit
 have ih := fun k hk => ih k hk (h4 k hk) (fun x hx => hv x (z3m hk hx))
 have hlen : (z09 u).length = 1 + (u.kids.flatMap z09).length := by rw [z1x, List.length_cons, Nat.add_comm]
 have hv := hv u (z2b u) s (by omega)
 have hm1 := hm u s
 unfold maxLen at h3
 have hrun : (z09 u).foldl (fun s x => step x s) s = (u.kids.flatMap z09).foldl (fun s x => step x s) (step u s) := by rw [z1x]; rfl
 rw [hrun]; clear hrun
 generalize step u s = s1 at hv hm1 ⊢
 refine zjg hI rfl fun H nx hlo hs => ?_
 refine (z1w [] Tryz.func103 rfl (by decide +kernel) z0j (by decide +kernel) (by simp [Tryz.ntmps103]) ?_)
 show awp _ _ (Code.seq _ _) _ _
 repeat' (first | ((refine zqh fun K J => ?_); (simp (disch := omega) only [go_sem, Nat.reduceBEq, ↓reduceIte, Nat.reduceAdd, Nat.reduceLeDiff])) | (refine J _ ?_; clear J K))
 refine zei hv (by show lo <= nx + 1; omega) (hI.loc s H _ (fun id hid => zbv (by omega)) hs) fun H1 hs1 hH1 => ?_
 have hb1 : H1 nx = some (.box 27 (z06 u)) := (hH1 nx hlo).trans zzf
 have hk1 : ∀ id, lo <= id -> id < nx -> H1 id = H id := fun id h1 h2 => (hH1 id h1).trans (zbv (by omega))
 clear hH1
 (try (simp (disch := omega) only [go_sem])); repeat' (first | ((refine zqh fun K J => ?_); (simp (disch := omega) only [go_sem, Nat.reduceBEq, ↓reduceIte, reduceCtorEq, Nat.reduceAdd, hb1])) | refine zqi ?_ | (refine J _ ?_; clear J K))
 (refine z37 (fun U st => ∃ (i : _) (si : _), U = u.kids.length - i /\ st.t 1 = .fn g cap /\ st.t 10 = z0e u.kids /\ st.t 11 = .int .i64 u.kids.length /\ st.t 12 = .int .i64 i /\ (i <= u.kids.length) /\ (nx < st.nx) /\ (I si st.H) /\ (((u.kids.take i).flatMap z09).foldl (fun s x => step x s) s1 = si) /\ (∀ id, lo <= id -> id < nx -> st.H id = H id)) ?_ ?_); rotate_left; (rintro U st ⟨i, si, rfl, q1, q10, q11, q12, qp0, qp1, qp2, qp3, qp4⟩); rotate_left
 ·(refine ⟨_, 0, s1, rfl, ?_⟩); (simp (disch := omega) only [go_sem, Nat.reduceBEq, true_and, Int.natCast_zero, List.flatMap_nil, z0e])
  exact ⟨by omega, hs1, rfl, hk1⟩
 have ih := fun (h : i < u.kids.length) => ih u.kids[i] (List.getElem_mem h) si
 repeat' (first | ((first | refine zqh fun K J => ?_ | refine zqr fun K J => ?_); (simp (disch := omega) only [go_sem, Nat.reduceBEq, ↓reduceIte, reduceCtorEq, Nat.reduceAdd, Nat.reduceLeDiff, q1, q10, q11, q12, z0e])) | ((refine zqd _ rfl (fun hc => ?_) (fun hc => ?_)) <;> (((try simp only [z03] at hc); (try (exfalso; omega))))) | refine zqa ?_ | refine zqb ?_ | refine zqc ?_ | refine zqz ?_ | refine zqp ?_ | refine zqu (by (simp (disch := omega) only [go_sem]); rfl) rfl ?_ | (refine J _ ?_; clear J K))
 ·have hi : i < u.kids.length := by omega
  have hle : ∀ (l : List T) (s : σ), m (l.foldl (fun s x => step x s) s) <= m s + l.length := fun l => by
   induction l with
   | nil => intro s; simp
   | cons x l ih2 => intro s; have h1 := ih2 (step x s); have h2 := hm x s; simp only [List.foldl_cons, List.length_cons]; omega
  have ih := ih hi (by
   have h1 := hle ((u.kids.take i).flatMap z09) s1
   rw [qp3] at h1
   have h2 : (u.kids.flatMap z09).length = ((u.kids.take i).flatMap z09).length + ((z09 u.kids[i]).length + ((u.kids.drop (i + 1)).flatMap z09).length) := by
    rw [<- List.length_append, <- List.flatMap_cons, List.getElem_cons_drop, <- List.length_append, <- List.flatMap_append, List.take_append_drop]
   omega)
  have hrun : ((u.kids.take (i + 1)).flatMap z09).foldl (fun s x => step x s) s1 = (z09 u.kids[i]).foldl (fun s x => step x s) si := by
   rw [List.take_succ_eq_append_getElem hi, List.flatMap_append, List.foldl_append, qp3]; simp
  refine zei ih (by show lo <= st.nx + 1; omega) (hI.loc si st.H _ (fun id hid => (zbv (by omega)).trans (zbv (by omega))) qp2) fun H2 hs2 hH2 => ?_
  have hk2 : ∀ id, lo <= id -> id < nx -> H2 id = H id := fun id h1 h2 => ((hH2 id h1).trans ((zbv (by omega)).trans (zbv (by omega)))).trans (qp4 id h1 h2)
  clear hH2
  (try (simp (disch := omega) only [go_sem])); repeat' (first | ((refine zqr fun K J => ?_); (simp (disch := omega) only [go_sem, Nat.reduceBEq, ↓reduceIte, q12])) | refine zqv ?_ | refine zqy ?_ | (refine J _ ?_; clear J K))
  (refine Exists.intro _ (And.intro ?_ ⟨i + 1, (z09 u.kids[i]).foldl (fun s x => step x s) si, rfl, ?_⟩)); rotate_left; (simp (disch := omega) only [go_sem, Nat.reduceBEq, q1, q10, q11, q12, true_and, Int.natCast_add, Int.natCast_one]); rotate_left
  ·omega
  ·exact ⟨by omega, hs2, hrun, hk2⟩
 ·have : u.kids.take i = u.kids := List.take_of_length_le (by omega)
  rw [this] at qp3
  rw [qp3]
  (simp (disch := omega) only [go_sem])
  exact ⟨qp2, qp4⟩
def zjq (u : T) (p : List Stp) (l : List T) : List HObj := [.box 27 (z06 u), .box 28 [z0a p], .box 25 [.osl 3 l.length], .row 27 l.length (l.flatMap z06)]
theorem low_F (u : T) (p : List Stp) : Low 4 fun l H => ∀ j, j < 4 -> H j = (zjq u p l)[j]? := zwd (zjq u p) (fun _ => rfl) fun l o ho => by
 simp only [zjq, List.mem_cons, List.not_mem_nil, or_false] at ho
 rcases ho with rfl | rfl | rfl | rfl
 ·exact znx _ _
 ·exact z4i 4 [z0a p] (by simp only [pureD.pureL, z0r, Bool.and_self])
 ·rfl
 ·exact z4i _ _ (z47 l)
def addF (s : Stp) (x : T) (l : List T) : List T := if atB s x = true then l ++ [x] else l
theorem zjr (s : Stp) : ∀ (l a : List T), l.foldl (fun a x => addF s x a) a = a ++ l.filter (atB s)
 | [], a => by simp
 | x :: l, a => by
  rw [List.foldl_cons, zjr s l, List.filter_cons]
  unfold addF
  split <;> simp
theorem zp1 (u x : T) (s : Stp) (r : List Stp) (l : List T) (hl : l.length < 1000000) : Eff Tryz.prog 104 [z17 x, .ptr 1 0, .ptr 2 0] 4 (fun l H => ∀ j, j < 4 -> H j = (zjq u (s :: r) l)[j]?) l (addF s x l) (.tup []) := by
 refine zjg (low_F u (s :: r)) rfl fun H nx hlo hs => ?_
 have h0 : H 0 = some (.box 27 (z06 u)) := hs 0 (by omega)
 have h1 : H 1 = some (.box 28 [z0a (s :: r)]) := hs 1 (by omega)
 have h2 : H 2 = some (.box 25 [.osl 3 l.length]) := hs 2 (by omega)
 have h3 : H 3 = some (.row 27 l.length (l.flatMap z06)) := hs 3 (by omega)
 have hne : (1 == nx) = false := by simp; omega
 have hne' : (0 == nx) = false := by simp; omega
 have hne2 : (2 == nx) = false := by simp; omega
 have hne3 : (3 == nx) = false := by simp; omega
 have c1 := zet x s
 have hz : Int.toNat 0 = 0 := rfl
 refine (z1w [600014, 900003, 600002, 900002] Tryz.func104 rfl (by decide +kernel) z0j (by decide +kernel) (by simp [Tryz.ntmps104]) ?_)
 show awp _ _ (Code.seq _ _) _ _
 unfold addF
 have hall : ([Value.int .i64 0, Value.int .i64 0, Value.int .i64 0, Value.int .i64 0, Value.string ⟨#[]⟩, Value.slice none 0 0, Value.slice none 0 0, Value.slice none 0 0].all fun x => x.oneCell') = true := rfl
 have hfl : (l.flatMap z06).length = l.length * 8 := zmz z0m l
 have hle : l.length * 8 <= (l.flatMap z06).length := Nat.le_of_eq hfl.symm
 have hsp : z11 (l.flatMap z06 ++ [.int .i64 0, .int .i64 0, .int .i64 0, .int .i64 0, .str ⟨#[]⟩, .nil, .nil, .nil]) (l.length * 8) (z06 x) = l.flatMap z06 ++ z06 x := by
  rw [<- hfl]
  have := zez (z06 x) (l.flatMap z06) [.int .i64 0, .int .i64 0, .int .i64 0, .int .i64 0, .str ⟨#[]⟩, .nil, .nil, .nil] 0
  rw [Nat.add_zero] at this
  rw [this, z1n _ _ (by rw [z0m]; rfl)]
 repeat' (first | ((first | refine zqh fun K J => ?_ | refine zqe (by decide +kernel) fun K J => ?_ | refine zqq (by decide +kernel) fun K J => ?_ | refine zqt (c1) ?_); (simp (disch := omega) only [go_sem, Nat.reduceBEq, Nat.reduceEqDiff, ↓reduceIte, reduceCtorEq, Nat.reduceAdd, Nat.reduceMul, Nat.reduceLeDiff, Nat.reduceLT, h1, h2, h3, hne, hne2, hne3, z0a, List.map_cons, List.length_cons, zfp, hall, hsp, hle])) | ((refine zqm _ rfl (fun hc => ?_) (fun hc => ?_)) <;> (((try simp only [z03] at hc); (try (exfalso; omega))))) | refine zqk ?_ | refine zqu (by (simp (disch := omega) only [go_sem]); rfl) rfl ?_ | (refine J _ ?_; clear J K))
 ·rw [if_pos (by assumption)]
  (simp (disch := omega) only [go_sem])
  refine ⟨fun j hj => ?_, fun id g1 g2 => ?_⟩
  ·match j, hj with
   | 0, _ => simp [hne', h0, zjq]
   | 1, _ => simp [hne, h1, zjq]
   | 2, _ => simp [hne2, zjq]
   | 3, _ => simp [hne3, zjq]
  ·rw [show (id == 2) = false from by simp; omega, show (id == 3) = false from by simp; omega, show (id == nx) = false from by simp; omega]; rfl
 ·rw [if_neg (by rw [‹atB s x = false›]; simp)]
  (simp (disch := omega) only [go_sem])
  refine ⟨fun j hj => ?_, fun id g1 g2 => ?_⟩
  ·rw [show (j == nx) = false from by simp; omega]; exact hs j hj
  ·rw [show (id == nx) = false from by simp; omega]; rfl
theorem zvg (u : T) (hs : szB u = true) (hc : cntT u <= 1100) (p : List Stp) (hl : p.length <= maxLen) (hps : ∀ s ∈ p, s.label.size <= maxLen) : PC Tryz.prog 89 [z17 u, z0a p] (z0e (z2j u p)) := by
 have c1 := zt3 p hl hps
 have hc0 := hc
 have hn0 : (z09 u).length <= 1100 := hc
 refine z1y 2 (by simp only [pureD.pureL, z05, z0r, Bool.and_self]) (z1e _) (z1w [8] Tryz.func89 rfl (by decide +kernel) z0j (by decide +kernel) (by simp [Tryz.ntmps89]) ?_)
 show awp _ _ (Code.seq _ _) _ _
 by_cases hv : z5e p = true
 ·rw [hv] at c1
  have h9 := (zu3 hv).1
  unfold z2j
  rw [if_pos hv]
  repeat' (first | refine zqj ?_ | ((first | refine z01 (N := 3) rfl fun K J => ?_ | refine zqs (c1) ?_); (simp (disch := omega) only [go_sem, Nat.reduceBEq, ↓reduceIte, Nat.reduceAdd, z0a])) | ((refine zqd _ rfl (fun hc => ?_) (fun hc => ?_)) <;> (first | (cases hc; done) | ((try simp only [] at hc); (try (exfalso; omega))))) | refine zqb ?_ | (refine J _ ?_; clear J K))
  cases p with
  | nil =>
   repeat' (first | ((refine zqh fun K J => ?_); (simp (disch := omega) only [go_sem, Nat.reduceBEq, ↓reduceIte, reduceCtorEq, Nat.reduceAdd, Nat.reduceMul, Nat.reduceLeDiff])) | ((refine zqm _ rfl (fun hc => ?_) (fun hc => ?_)) <;> (first | (cases hc; done) | ((try simp only [decide_eq_true_eq] at hc); (try (exfalso; omega))))) | refine zqa ?_ | refine zqn ?_ | refine zqx ?_ | refine z4a ?_ | refine zqu (by (simp (disch := omega) only [go_sem]); rfl) rfl ?_ | (refine J _ ?_; clear J K))
   refine z02 ?_ Le.rsl
   show pureD (.rsl true 8 [.agg (z06 u)]) = true
   simp only [pureD, pureD.pureL, z0d, Bool.and_self]
  | cons s r =>
   have c2 := zmv s
   have hz : Int.toNat 0 = 0 := rfl
   simp only [List.length_cons] at h9
   by_cases hb : zd3 s = true
   ·have hft : z15 u s = [u] := if_pos hb
    have hfu : (z15 u s).map z17 = [.agg (z06 u)] := by rw [hft]; rfl
    rw [hb] at c2
    repeat' (first | refine zqj ?_ | ((first | refine zqh fun K J => ?_ | refine zqr fun K J => ?_ | refine zqs (c2) ?_); (simp (disch := omega) only [go_sem, Nat.reduceBEq, ↓reduceIte, reduceCtorEq, Nat.reduceAdd, Nat.reduceMul, Nat.reduceLeDiff, Nat.reduceLT, Int.reduceLE, List.map_cons, List.length_cons, zfp, List.drop_zero])) | ((refine zqm _ rfl (fun hc => ?_) (fun hc => ?_)) <;> (first | (cases hc; done) | ((try simp only [decide_eq_false_iff_not] at hc); (try (exfalso; omega))))) | refine zqa ?_ | refine zqv ?_ | refine zqy ?_ | (refine J _ ?_; clear J K))
    (refine z37 (fun U st => ∃ (k : _) (L : List T) (nn : Bool), U = r.length - k /\ st.t 5 = .ptr 2 0 /\ st.t 33 = .rsl false 2 (r.map z77) /\ st.t 34 = .int .i64 r.length /\ st.t 35 = .int .i64 k /\ st.H 2 = some (.box 25 [.rsl nn 8 (L.map z17)]) /\ (k <= r.length) /\ (L = (r.take k).foldl z1u (z15 u s)) /\ (3 <= st.nx)) ?_ ?_); rotate_left; (rintro U st ⟨k, L, nn, rfl, t5, t33, t34, t35, tH2, tp0, tp1, tp2⟩); rotate_left
    ·(refine ⟨_, 0, z15 u s, true, rfl, ?_⟩); (simp (disch := omega) only [go_sem, Nat.reduceBEq, Nat.reduceLeDiff, true_and, and_true, Int.natCast_add, Int.natCast_one, Int.natCast_zero, hfu])
     exact ⟨rfl, rfl, rfl⟩
    have hLw : z91 L <= 1210000 := by rw [tp1]; exact z79 _ _ (z78 hc0)
    by_cases hk : k < r.length
    ·obtain ⟨sk, hsk⟩ : ∃ sk, sk = r[k]'hk := ⟨_, rfl⟩
     have hLn : (z1u L sk).length <= 1210000 := Nat.le_trans (z5t _) (Nat.le_trans (z92 _ _) hLw)
     have hLl : L.length <= 1210000 := Nat.le_trans (z5t _) hLw
     have hLm : ∀ x ∈ L, x ∈ z09 u := by rw [tp1]; exact z9j _ _ z93
     repeat' (first | refine zqj ?_ | ((refine zqh fun K J => ?_); (simp (disch := omega) only [go_sem, Nat.reduceBEq, ↓reduceIte, reduceCtorEq, Nat.reduceAdd, Nat.reduceLeDiff, t5, t33, t34, t35, tH2, <- hsk])) | ((refine zqd _ rfl (fun hc => ?_) (fun hc => ?_)) <;> (((try simp only [z03] at hc); (try (exfalso; omega))))) | refine zqa ?_ | refine zqb ?_ | (refine J _ ?_; clear J K))
     (refine z37 (fun U st => ∃ (i : _) (a : Nat) (m : Nat), U = L.length - i /\ st.t 5 = .ptr 2 0 /\ st.t 33 = .rsl false 2 (r.map z77) /\ st.t 34 = .int .i64 r.length /\ st.t 35 = .int .i64 k /\ st.t 7 = .ptr a 0 /\ st.t 8 = .osl m ((L.take i).flatMap (fun x => x.kids.filter (atB sk))).length /\ st.t 39 = .rsl nn 8 (L.map z17) /\ st.t 40 = .int .i64 L.length /\ st.t 41 = .int .i64 i /\ st.H 2 = some (.box 25 [.rsl nn 8 (L.map z17)]) /\ st.H (a) = some (.box 59 (z3x sk)) /\ st.H (m) = some (.row 27 ((L.take i).flatMap (fun x => x.kids.filter (atB sk))).length (((L.take i).flatMap (fun x => x.kids.filter (atB sk))).flatMap z06)) /\ (i <= L.length) /\ (2 < a) /\ (2 < m) /\ (¬ a = m) /\ (a < st.nx) /\ (m < st.nx)) ?_ ?_); rotate_left; (rintro U st ⟨i, a, m, rfl, v5, v33, v34, v35, v7, v8, v39, v40, v41, vH2, vHa, vHm, vp0, vp1, vp2, vp3, vp4, vp5⟩); rotate_left
     ·(refine ⟨_, 0, st.nx, st.nx + 1, rfl, ?_⟩); (simp (disch := omega) only [go_sem, Nat.reduceBEq, t5, t33, t34, t35, tH2, true_and, Int.natCast_zero, List.flatMap_nil, z3x])
      exact ⟨by omega, by omega, by omega⟩
     have h2m : (2 == m) = false := by simp; omega
     have hm2 : (m == 2) = false := by simp; omega
     have ham : (a == m) = false := by simp; omega
     by_cases hi : i < L.length
     ·have hkl : L[i].kids.length <= 1000000 := (z6a (z7d u hs _ (hLm _ (List.getElem_mem hi)))).1
      repeat' (first | ((refine zqh fun K J => ?_); (simp (disch := omega) only [go_sem, Nat.reduceBEq, ↓reduceIte, reduceCtorEq, Nat.reduceAdd, Nat.reduceLeDiff, v39, v40, v41, z0e])) | ((refine zqd _ rfl (fun hc => ?_) (fun hc => ?_)) <;> (((try simp only [z03] at hc); (try (exfalso; omega))))) | refine zqa ?_ | refine zqi ?_ | refine zqb ?_ | (refine J _ ?_; clear J K))
      (refine z37 (fun U st => ∃ (j : _) (b : Nat), U = L[i].kids.length - j /\ st.t 5 = .ptr 2 0 /\ st.t 33 = .rsl false 2 (r.map z77) /\ st.t 34 = .int .i64 r.length /\ st.t 35 = .int .i64 k /\ st.t 7 = .ptr a 0 /\ st.t 8 = .osl m ((L.take i).flatMap (fun x => x.kids.filter (atB sk)) ++ (L[i].kids.take j).filter (atB sk)).length /\ st.t 39 = .rsl nn 8 (L.map z17) /\ st.t 40 = .int .i64 L.length /\ st.t 41 = .int .i64 i /\ st.t 46 = z0e L[i].kids /\ st.t 47 = .int .i64 L[i].kids.length /\ st.t 48 = .int .i64 j /\ st.H 2 = some (.box 25 [.rsl nn 8 (L.map z17)]) /\ st.H (a) = some (.box 59 (z3x sk)) /\ st.H (m) = some (.row 27 ((L.take i).flatMap (fun x => x.kids.filter (atB sk)) ++ (L[i].kids.take j).filter (atB sk)).length (((L.take i).flatMap (fun x => x.kids.filter (atB sk)) ++ (L[i].kids.take j).filter (atB sk)).flatMap z06)) /\ (j <= L[i].kids.length) /\ (2 < a) /\ (2 < m) /\ (¬ a = m) /\ (a < st.nx) /\ (m < st.nx) /\ (b = 0)) ?_ ?_); rotate_left; (rintro U st ⟨j, b, rfl, w5, w33, w34, w35, w7, w8, w39, w40, w41, w46, w47, w48, wH2, wHa, wHm, wp0, wp1, wp2, wp3, wp4, wp5, wp6⟩); rotate_left
      ·(refine ⟨_, 0, 0, rfl, ?_⟩); (simp (disch := omega) only [go_sem, Nat.reduceBEq, v5, v33, v34, v35, v7, v8, v39, v40, v41, vH2, vHa, vHm, true_and, and_true, and_self, Int.natCast_zero, List.append_nil, z0e, List.take_zero, List.filter_nil])
       exact ⟨by omega, by omega, by omega⟩
      have hpt := zb8 (s := sk) hi j
      rw [List.length_append] at hpt
      by_cases hj : j < L[i].kids.length
      ·have c5 := zet L[i].kids[j] sk
       have htk := List.take_succ_eq_append_getElem hj
       repeat' (first | ((first | refine zqh fun K J => ?_ | refine zqr fun K J => ?_ | refine zqs (c5) ?_); (simp (disch := omega) only [go_sem, Nat.reduceBEq, ↓reduceIte, reduceCtorEq, Nat.reduceAdd, Nat.reduceMul, Nat.reduceLeDiff, w7, w8, w46, w47, w48, wHa, wHm, z0e, z3x])) | ((first | refine zqd _ rfl (fun hc => ?_) (fun hc => ?_) | refine zqm _ rfl (fun hc => ?_) (fun hc => ?_)) <;> (((try simp only [z03] at hc); (try (exfalso; omega))))) | refine zqa ?_ | refine zqb ?_ | refine zqk ?_ | refine zqv ?_ | refine zqy ?_ | (refine J _ ?_; clear J K))
       ·have htf : (L[i].kids.take (j + 1)).filter (atB sk) = (L[i].kids.take j).filter (atB sk) ++ [L[i].kids[j]] := by
         rw [htk, List.filter_append, List.filter_cons, if_pos (by assumption)]; rfl
        (refine Exists.intro _ (And.intro ?_ ⟨j + 1, 0, rfl, ?_⟩)); rotate_left; (simp (disch := omega) only [go_sem, Nat.reduceBEq, w5, w33, w34, w35, w7, w8, w39, w40, w41, w46, w47, w48, wH2, wHa, wHm, true_and, and_true, and_self, Int.natCast_add, Int.natCast_one, List.flatMap_append, List.flatMap_cons, List.flatMap_nil, List.append_nil, htf, h2m, ham, List.length_append, List.length_cons, List.length_nil, Nat.add_assoc, List.append_assoc]); rotate_left
        ·omega
        ·repeat' (omega)
       ·have htf : (L[i].kids.take (j + 1)).filter (atB sk) = (L[i].kids.take j).filter (atB sk) := by
         rw [htk, List.filter_append, List.filter_cons, if_neg (by rw [‹atB sk L[i].kids[j] = false›]; simp), List.filter_nil, List.append_nil]
        (refine Exists.intro _ (And.intro ?_ ⟨j + 1, 0, rfl, ?_⟩)); rotate_left; (simp (disch := omega) only [go_sem, Nat.reduceBEq, w5, w33, w34, w35, w7, w8, w39, w40, w41, w46, w47, w48, wH2, wHa, wHm, true_and, and_true, and_self, Int.natCast_add, Int.natCast_one, List.flatMap_append, htf]); rotate_left
        ·omega
        ·repeat' (omega)
      ·repeat' (first | ((first | refine zqh fun K J => ?_ | refine zqr fun K J => ?_); (simp (disch := omega) only [go_sem, Nat.reduceBEq, ↓reduceIte, w41, w47, w48])) | ((refine zqd _ rfl (fun hc => ?_) (fun hc => ?_)) <;> (((try simp only [z03] at hc); (try (exfalso; omega))))) | refine zqc ?_ | refine zqv ?_ | refine zqy ?_ | refine zqz ?_ | refine zqp ?_ | (refine J _ ?_; clear J K))
       have hj2 : L[i].kids.take j = L[i].kids := List.take_of_length_le (by omega)
       have htk : (L.take (i + 1)).flatMap (fun x => x.kids.filter (atB sk)) = (L.take i).flatMap (fun x => x.kids.filter (atB sk)) ++ L[i].kids.filter (atB sk) := by
        rw [List.take_succ_eq_append_getElem hi, List.flatMap_append, List.flatMap_cons, List.flatMap_nil, List.append_nil]
       rw [hj2, <- htk] at w8 wHm
       (refine Exists.intro _ (And.intro ?_ ⟨i + 1, a, m, rfl, ?_⟩)); rotate_left; (simp (disch := omega) only [go_sem, Nat.reduceBEq, w5, w33, w34, w35, w7, w8, w39, w40, w41, wH2, wHa, wHm, true_and, Int.natCast_add, Int.natCast_one]); rotate_left
       ·omega
       ·repeat' (omega)
     ·skip
      repeat' (first | ((refine z01 (N := 23) rfl fun K J => ?_); (simp (disch := omega) only [go_sem, ↓reduceIte, v40, v41])) | ((refine zqd _ rfl (fun hc => ?_) (fun hc => ?_)) <;> (((try simp only [z03] at hc); (try (exfalso; omega))))) | refine zqc ?_ | refine zqv ?_ | refine zqz ?_ | refine zqp ?_ | (refine J _ ?_; clear J K))
      have hi2 : L.take i = L := List.take_of_length_le (by omega)
      have hnx : (r.take (k + 1)).foldl z1u (z15 u s) = z1u L sk := by
       rw [tp1, List.take_succ_eq_append_getElem (by omega), List.foldl_append, hsk]; rfl
      rw [hi2] at v8 vHm
      have hnt : L.flatMap (fun x => x.kids.filter (atB sk)) = z1u L sk := rfl
      rw [hnt] at v8 vHm
      have g1 : z1k true 8 (z1u L sk).length ((z1u L sk).flatMap z06) = (z1u L sk).map z17 := z3k _ _ rfl
      refine zqr fun K J => ?_
      (simp (disch := omega) only [go_sem, Nat.reduceBEq, ↓reduceIte, Nat.reduceLeDiff, Nat.reduceLT, v5, v8, vH2])
      refine J _ ?_
      clear J K
      refine zqy (zaw _ (za7 (P := Tryz.prog) (id := m) (e := 27) (k := (z1u L sk).length) (cs := (z1u L sk).flatMap z06) (by (simp (disch := omega) only [go_sem, vHm, hm2])) (by decide +kernel) (z47 _)) ?_)
      repeat' (first | ((refine zqr fun K J => ?_); (simp (disch := omega) only [go_sem, Nat.reduceBEq, ↓reduceIte, v35, g1])) | (refine J _ ?_; clear J K))
      (refine Exists.intro _ (And.intro ?_ ⟨k + 1, z1u L sk, false, rfl, ?_⟩)); rotate_left; (simp (disch := omega) only [go_sem, Nat.reduceBEq, v5, v33, v34, v35, vH2, true_and, Int.natCast_add, Int.natCast_one, List.map_cons, List.map_nil, g1, h2m]); rotate_left
      ·omega
      ·exact ⟨by omega, hnx.symm, by omega⟩
    ·skip
     repeat' (first | ((refine zqh fun K J => ?_); (simp (disch := omega) only [go_sem, Nat.reduceBEq, ↓reduceIte, Nat.reduceAdd, t5, t34, t35, tH2])) | ((refine zqd _ rfl (fun hc => ?_) (fun hc => ?_)) <;> (((try simp only [z03] at hc); (try (exfalso; omega))))) | refine zqc ?_ | refine zqn ?_ | refine zqv ?_ | refine zqz ?_ | refine zqp ?_ | refine zqu (by (simp (disch := omega) only [go_sem]); rfl) rfl ?_ | (refine J _ ?_; clear J K))
     have hk2 : k = r.length := by omega
     subst hk2
     rw [List.take_length] at tp1
     rw [goT, <- tp1]
     cases nn with
     | false => exact z02 (z1e L) (Le.refl _)
     | true => exact z02 (z1e L) Le.rsl
   ·have hft : z15 u s = (z09 u).filter (atB s) := if_neg hb
    rw [Bool.not_eq_true] at hb
    rw [hb] at c2
    refine z5a fun K J => ?_
    (simp (disch := omega) only [go_sem, Nat.reduceAdd])
    refine J _ _ (zsv (b := 2) (e := 25) 27 (by (simp (disch := omega) only [go_sem, Nat.reduceBEq]))) ?_
    clear J K
    repeat' (first | ((first | refine z01 (N := 4) rfl fun K J => ?_ | refine zqs (c2) ?_); (simp (disch := omega) only [go_sem, Nat.reduceBEq, ↓reduceIte, reduceCtorEq, Nat.reduceAdd, List.map_cons, List.length_cons, zfp])) | ((refine zqm _ rfl (fun hc => ?_) (fun hc => ?_)) <;> (first | (cases hc; done) | ((try simp only [decide_eq_false_iff_not] at hc); (try (exfalso; omega))))) | refine zqa ?_ | (refine J _ ?_; clear J K))
    repeat' (((refine zqr fun K J => ?_); (simp (disch := omega) only [go_sem, Nat.reduceBEq, ↓reduceIte, Nat.reduceAdd, Nat.reduceLeDiff])))
    have h := zwf (g := 104) (cap := [.ptr 1 0, .ptr 2 0]) (fun x l => addF s x l) (low_F u (s :: r)) List.length (z09 u).length (fun x l => by unfold addF; split <;> simp) u (sz_fit u hs) (fun x _ l hl => zp1 u x s r l (by omega)) [] (by simp)
    rw [zjr, List.nil_append, <- hft] at h
    refine zei h (Nat.le_refl _) (fun j hj => ?_) fun H1 hs1 _ => ?_
    ·match j, hj with
     | 0, _ => rfl
     | 1, _ => rfl
     | 2, _ => rfl
     | 3, _ => rfl
    have h1 : H1 1 = some (.box 28 [z0a (s :: r)]) := hs1 1 (by omega)
    have h2 : H1 2 = some (.box 25 [.osl 3 (z15 u s).length]) := hs1 2 (by omega)
    have h3 : H1 3 = some (.row 27 (z15 u s).length ((z15 u s).flatMap z06)) := hs1 3 (by omega)
    clear h hs1
    (simp (disch := omega) only [go_sem])
    refine J _ ?_
    clear J K
    repeat' (first | refine zqj ?_ | refine zqv ?_ | refine zqy ?_)
    refine z5a fun K J => ?_
    (try (simp (disch := omega) only [go_sem, Nat.reduceBEq, ↓reduceIte, reduceCtorEq, Nat.reduceAdd, Int.reduceLE, h1, z0a, List.map_cons, List.length_cons])); repeat' skip
    refine J _ _ (za7 (P := Tryz.prog) (id := 3) (e := 27) (k := (z15 u s).length) (cs := (z15 u s).flatMap z06) (by (simp (disch := omega) only [go_sem, h3])) (by decide +kernel) (z47 _)) ?_
    clear J K
    have g0 : z1k true 8 (z15 u s).length ((z15 u s).flatMap z06) = (z15 u s).map z17 := z3k _ _ rfl
    repeat' (refine zqa ?_)
    (refine z37 (fun U st => ∃ (k : _) (L : List T) (nn : Bool), U = r.length - k /\ st.t 5 = .ptr 2 0 /\ st.t 33 = .rsl false 2 (r.map z77) /\ st.t 34 = .int .i64 r.length /\ st.t 35 = .int .i64 k /\ st.H 2 = some (.box 25 [.rsl nn 8 (L.map z17)]) /\ (k <= r.length) /\ (L = (r.take k).foldl z1u (z15 u s)) /\ (3 <= st.nx)) ?_ ?_); rotate_left; (rintro U st ⟨k, L, nn, rfl, t5, t33, t34, t35, tH2, tp0, tp1, tp2⟩); rotate_left
    ·(refine ⟨_, 0, z15 u s, false, rfl, ?_⟩); (simp (disch := omega) only [go_sem, Nat.reduceBEq, Nat.reduceLeDiff, true_and, and_true, Int.natCast_add, Int.natCast_one, Int.natCast_zero, List.map_nil, g0, h2, Option.map_some])
     exact ⟨rfl, rfl, rfl⟩
    have hLw : z91 L <= 1210000 := by rw [tp1]; exact z79 _ _ (z78 hc0)
    by_cases hk : k < r.length
    ·obtain ⟨sk, hsk⟩ : ∃ sk, sk = r[k]'hk := ⟨_, rfl⟩
     have hLn : (z1u L sk).length <= 1210000 := Nat.le_trans (z5t _) (Nat.le_trans (z92 _ _) hLw)
     have hLl : L.length <= 1210000 := Nat.le_trans (z5t _) hLw
     have hLm : ∀ x ∈ L, x ∈ z09 u := by rw [tp1]; exact z9j _ _ z93
     repeat' (first | refine zqj ?_ | ((refine zqh fun K J => ?_); (simp (disch := omega) only [go_sem, Nat.reduceBEq, ↓reduceIte, reduceCtorEq, Nat.reduceAdd, Nat.reduceLeDiff, t5, t33, t34, t35, tH2, <- hsk])) | ((refine zqd _ rfl (fun hc => ?_) (fun hc => ?_)) <;> (((try simp only [z03] at hc); (try (exfalso; omega))))) | refine zqa ?_ | refine zqb ?_ | (refine J _ ?_; clear J K))
     (refine z37 (fun U st => ∃ (i : _) (a : Nat) (m : Nat), U = L.length - i /\ st.t 5 = .ptr 2 0 /\ st.t 33 = .rsl false 2 (r.map z77) /\ st.t 34 = .int .i64 r.length /\ st.t 35 = .int .i64 k /\ st.t 7 = .ptr a 0 /\ st.t 8 = .osl m ((L.take i).flatMap (fun x => x.kids.filter (atB sk))).length /\ st.t 39 = .rsl nn 8 (L.map z17) /\ st.t 40 = .int .i64 L.length /\ st.t 41 = .int .i64 i /\ st.H 2 = some (.box 25 [.rsl nn 8 (L.map z17)]) /\ st.H (a) = some (.box 59 (z3x sk)) /\ st.H (m) = some (.row 27 ((L.take i).flatMap (fun x => x.kids.filter (atB sk))).length (((L.take i).flatMap (fun x => x.kids.filter (atB sk))).flatMap z06)) /\ (i <= L.length) /\ (2 < a) /\ (2 < m) /\ (¬ a = m) /\ (a < st.nx) /\ (m < st.nx)) ?_ ?_); rotate_left; (rintro U st ⟨i, a, m, rfl, v5, v33, v34, v35, v7, v8, v39, v40, v41, vH2, vHa, vHm, vp0, vp1, vp2, vp3, vp4, vp5⟩); rotate_left
     ·(refine ⟨_, 0, st.nx, st.nx + 1, rfl, ?_⟩); (simp (disch := omega) only [go_sem, Nat.reduceBEq, t5, t33, t34, t35, tH2, true_and, Int.natCast_zero, List.flatMap_nil, z3x])
      exact ⟨by omega, by omega, by omega⟩
     have h2m : (2 == m) = false := by simp; omega
     have hm2 : (m == 2) = false := by simp; omega
     have ham : (a == m) = false := by simp; omega
     by_cases hi : i < L.length
     ·have hkl : L[i].kids.length <= 1000000 := (z6a (z7d u hs _ (hLm _ (List.getElem_mem hi)))).1
      repeat' (first | ((refine zqh fun K J => ?_); (simp (disch := omega) only [go_sem, Nat.reduceBEq, ↓reduceIte, reduceCtorEq, Nat.reduceAdd, Nat.reduceLeDiff, v39, v40, v41, z0e])) | ((refine zqd _ rfl (fun hc => ?_) (fun hc => ?_)) <;> (((try simp only [z03] at hc); (try (exfalso; omega))))) | refine zqa ?_ | refine zqi ?_ | refine zqb ?_ | (refine J _ ?_; clear J K))
      (refine z37 (fun U st => ∃ (j : _) (b : Nat), U = L[i].kids.length - j /\ st.t 5 = .ptr 2 0 /\ st.t 33 = .rsl false 2 (r.map z77) /\ st.t 34 = .int .i64 r.length /\ st.t 35 = .int .i64 k /\ st.t 7 = .ptr a 0 /\ st.t 8 = .osl m ((L.take i).flatMap (fun x => x.kids.filter (atB sk)) ++ (L[i].kids.take j).filter (atB sk)).length /\ st.t 39 = .rsl nn 8 (L.map z17) /\ st.t 40 = .int .i64 L.length /\ st.t 41 = .int .i64 i /\ st.t 46 = z0e L[i].kids /\ st.t 47 = .int .i64 L[i].kids.length /\ st.t 48 = .int .i64 j /\ st.H 2 = some (.box 25 [.rsl nn 8 (L.map z17)]) /\ st.H (a) = some (.box 59 (z3x sk)) /\ st.H (m) = some (.row 27 ((L.take i).flatMap (fun x => x.kids.filter (atB sk)) ++ (L[i].kids.take j).filter (atB sk)).length (((L.take i).flatMap (fun x => x.kids.filter (atB sk)) ++ (L[i].kids.take j).filter (atB sk)).flatMap z06)) /\ (j <= L[i].kids.length) /\ (2 < a) /\ (2 < m) /\ (¬ a = m) /\ (a < st.nx) /\ (m < st.nx) /\ (b = 0)) ?_ ?_); rotate_left; (rintro U st ⟨j, b, rfl, w5, w33, w34, w35, w7, w8, w39, w40, w41, w46, w47, w48, wH2, wHa, wHm, wp0, wp1, wp2, wp3, wp4, wp5, wp6⟩); rotate_left
      ·(refine ⟨_, 0, 0, rfl, ?_⟩); (simp (disch := omega) only [go_sem, Nat.reduceBEq, v5, v33, v34, v35, v7, v8, v39, v40, v41, vH2, vHa, vHm, true_and, and_true, and_self, Int.natCast_zero, List.append_nil, z0e, List.take_zero, List.filter_nil])
       exact ⟨by omega, by omega, by omega⟩
      have hpt := zb8 (s := sk) hi j
      rw [List.length_append] at hpt
      by_cases hj : j < L[i].kids.length
      ·have c5 := zet L[i].kids[j] sk
       have htk := List.take_succ_eq_append_getElem hj
       repeat' (first | ((first | refine zqh fun K J => ?_ | refine zqr fun K J => ?_ | refine zqs (c5) ?_); (simp (disch := omega) only [go_sem, Nat.reduceBEq, ↓reduceIte, reduceCtorEq, Nat.reduceAdd, Nat.reduceMul, Nat.reduceLeDiff, w7, w8, w46, w47, w48, wHa, wHm, z0e, z3x])) | ((first | refine zqd _ rfl (fun hc => ?_) (fun hc => ?_) | refine zqm _ rfl (fun hc => ?_) (fun hc => ?_)) <;> (((try simp only [z03] at hc); (try (exfalso; omega))))) | refine zqa ?_ | refine zqb ?_ | refine zqk ?_ | refine zqv ?_ | refine zqy ?_ | (refine J _ ?_; clear J K))
       ·have htf : (L[i].kids.take (j + 1)).filter (atB sk) = (L[i].kids.take j).filter (atB sk) ++ [L[i].kids[j]] := by
         rw [htk, List.filter_append, List.filter_cons, if_pos (by assumption)]; rfl
        (refine Exists.intro _ (And.intro ?_ ⟨j + 1, 0, rfl, ?_⟩)); rotate_left; (simp (disch := omega) only [go_sem, Nat.reduceBEq, w5, w33, w34, w35, w7, w8, w39, w40, w41, w46, w47, w48, wH2, wHa, wHm, true_and, and_true, and_self, Int.natCast_add, Int.natCast_one, List.flatMap_append, List.flatMap_cons, List.flatMap_nil, List.append_nil, htf, h2m, ham, List.length_append, List.length_cons, List.length_nil, Nat.add_assoc, List.append_assoc]); rotate_left
        ·omega
        ·repeat' (omega)
       ·have htf : (L[i].kids.take (j + 1)).filter (atB sk) = (L[i].kids.take j).filter (atB sk) := by
         rw [htk, List.filter_append, List.filter_cons, if_neg (by rw [‹atB sk L[i].kids[j] = false›]; simp), List.filter_nil, List.append_nil]
        (refine Exists.intro _ (And.intro ?_ ⟨j + 1, 0, rfl, ?_⟩)); rotate_left; (simp (disch := omega) only [go_sem, Nat.reduceBEq, w5, w33, w34, w35, w7, w8, w39, w40, w41, w46, w47, w48, wH2, wHa, wHm, true_and, and_true, and_self, Int.natCast_add, Int.natCast_one, List.flatMap_append, htf]); rotate_left
        ·omega
        ·repeat' (omega)
      ·repeat' (first | ((first | refine zqh fun K J => ?_ | refine zqr fun K J => ?_); (simp (disch := omega) only [go_sem, Nat.reduceBEq, ↓reduceIte, w41, w47, w48])) | ((refine zqd _ rfl (fun hc => ?_) (fun hc => ?_)) <;> (((try simp only [z03] at hc); (try (exfalso; omega))))) | refine zqc ?_ | refine zqv ?_ | refine zqy ?_ | refine zqz ?_ | refine zqp ?_ | (refine J _ ?_; clear J K))
       have hj2 : L[i].kids.take j = L[i].kids := List.take_of_length_le (by omega)
       have htk : (L.take (i + 1)).flatMap (fun x => x.kids.filter (atB sk)) = (L.take i).flatMap (fun x => x.kids.filter (atB sk)) ++ L[i].kids.filter (atB sk) := by
        rw [List.take_succ_eq_append_getElem hi, List.flatMap_append, List.flatMap_cons, List.flatMap_nil, List.append_nil]
       rw [hj2, <- htk] at w8 wHm
       (refine Exists.intro _ (And.intro ?_ ⟨i + 1, a, m, rfl, ?_⟩)); rotate_left; (simp (disch := omega) only [go_sem, Nat.reduceBEq, w5, w33, w34, w35, w7, w8, w39, w40, w41, wH2, wHa, wHm, true_and, Int.natCast_add, Int.natCast_one]); rotate_left
       ·omega
       ·repeat' (omega)
     ·skip
      repeat' (first | ((refine z01 (N := 23) rfl fun K J => ?_); (simp (disch := omega) only [go_sem, ↓reduceIte, v40, v41])) | ((refine zqd _ rfl (fun hc => ?_) (fun hc => ?_)) <;> (((try simp only [z03] at hc); (try (exfalso; omega))))) | refine zqc ?_ | refine zqv ?_ | refine zqz ?_ | refine zqp ?_ | (refine J _ ?_; clear J K))
      have hi2 : L.take i = L := List.take_of_length_le (by omega)
      have hnx : (r.take (k + 1)).foldl z1u (z15 u s) = z1u L sk := by
       rw [tp1, List.take_succ_eq_append_getElem (by omega), List.foldl_append, hsk]; rfl
      rw [hi2] at v8 vHm
      have hnt : L.flatMap (fun x => x.kids.filter (atB sk)) = z1u L sk := rfl
      rw [hnt] at v8 vHm
      have g1 : z1k true 8 (z1u L sk).length ((z1u L sk).flatMap z06) = (z1u L sk).map z17 := z3k _ _ rfl
      refine zqr fun K J => ?_
      (simp (disch := omega) only [go_sem, Nat.reduceBEq, ↓reduceIte, Nat.reduceLeDiff, Nat.reduceLT, v5, v8, vH2])
      refine J _ ?_
      clear J K
      refine zqy (zaw _ (za7 (P := Tryz.prog) (id := m) (e := 27) (k := (z1u L sk).length) (cs := (z1u L sk).flatMap z06) (by (simp (disch := omega) only [go_sem, vHm, hm2])) (by decide +kernel) (z47 _)) ?_)
      repeat' (first | ((refine zqr fun K J => ?_); (simp (disch := omega) only [go_sem, Nat.reduceBEq, ↓reduceIte, v35, g1])) | (refine J _ ?_; clear J K))
      (refine Exists.intro _ (And.intro ?_ ⟨k + 1, z1u L sk, false, rfl, ?_⟩)); rotate_left; (simp (disch := omega) only [go_sem, Nat.reduceBEq, v5, v33, v34, v35, vH2, true_and, Int.natCast_add, Int.natCast_one, List.map_cons, List.map_nil, g1, h2m]); rotate_left
      ·omega
      ·exact ⟨by omega, hnx.symm, by omega⟩
    ·skip
     repeat' (first | ((refine zqh fun K J => ?_); (simp (disch := omega) only [go_sem, Nat.reduceBEq, ↓reduceIte, Nat.reduceAdd, t5, t34, t35, tH2])) | ((refine zqd _ rfl (fun hc => ?_) (fun hc => ?_)) <;> (((try simp only [z03] at hc); (try (exfalso; omega))))) | refine zqc ?_ | refine zqn ?_ | refine zqv ?_ | refine zqz ?_ | refine zqp ?_ | refine zqu (by (simp (disch := omega) only [go_sem]); rfl) rfl ?_ | (refine J _ ?_; clear J K))
     have hk2 : k = r.length := by omega
     subst hk2
     rw [List.take_length] at tp1
     rw [goT, <- tp1]
     cases nn with
     | false => exact z02 (z1e L) (Le.refl _)
     | true => exact z02 (z1e L) Le.rsl

 ·rw [Bool.not_eq_true] at hv
  rw [hv] at c1
  unfold z2j
  rw [if_neg (by rw [hv]; simp)]
  repeat' (first | refine zqj ?_ | ((first | refine zqh fun K J => ?_ | refine zqs (c1) ?_); (simp (disch := omega) only [go_sem, Nat.reduceBEq, ↓reduceIte, Nat.reduceAdd, z0a])) | ((refine zqd _ rfl (fun hc => ?_) (fun hc => ?_)) <;> (first | (cases hc; done) | ((try simp only [] at hc); (try (exfalso; omega))))) | refine zqg ?_ | refine zqu (by (simp (disch := omega) only [go_sem]); rfl) rfl ?_ | (refine J _ ?_; clear J K))
  exact z02 rfl (Le.nil 8)
theorem zkt (u : T) (hs : szB u = true) (hc : cntT u <= 1100) (p : List Stp) (hl : p.length <= maxLen) (hps : ∀ s ∈ p, s.label.size <= maxLen) : PC Tryz.prog 60 [z17 u, z0a p] (z2i (z40 u p)) := by
 have c1 := zvg u hs hc p hl hps
 have hn := zkf (u := u) (p := p) hc
 refine z1y 2 (by simp only [pureD.pureL, z05, z0r, Bool.and_self]) (z4q _) (z1w [5] Tryz.func60 rfl (by decide +kernel) z0j (by decide +kernel) (by simp [Tryz.ntmps60]) ?_)
 show awp _ _ (Code.seq _ _) _ _
 repeat' (first | refine zqj ?_ | ((first | refine zqh fun K J => ?_ | refine zqs (c1) ?_); (simp (disch := omega) only [go_sem, Nat.reduceBEq, ↓reduceIte, Nat.reduceAdd, Nat.reduceLeDiff])) | refine zqa ?_ | (refine J _ ?_; clear J K))
 (refine z37 (fun U st => ∃ (k : _), U = (z2j u p).length - k /\ st.t 5 = .osl 1 k /\ st.t 10 = z0e (z2j u p) /\ st.t 11 = .int .i64 (z2j u p).length /\ st.t 12 = .int .i64 k /\ st.H 1 = some (.row 23 k ((((z2j u p).take k).map T.id).flatMap z04)) /\ (k <= (z2j u p).length) /\ (2 <= st.nx)) ?_ ?_); rotate_left; (rintro U st ⟨k, rfl, q5, q10, q11, q12, qH1, qp0, qp1⟩); rotate_left
 ·(refine ⟨_, 0, rfl, ?_⟩); (simp (disch := omega) only [go_sem, Nat.reduceBEq, Nat.reduceLeDiff, and_self, Int.natCast_zero, List.flatMap_nil, List.map_nil, z0e])
  try simp
 by_cases hk : k < (z2j u p).length
 ·have htk := List.take_succ_eq_append_getElem hk
  repeat' (first | ((first | refine zqh fun K J => ?_ | refine zqr fun K J => ?_); (simp (disch := omega) only [go_sem, Nat.reduceBEq, ↓reduceIte, reduceCtorEq, Nat.reduceAdd, Nat.reduceMul, Nat.reduceLeDiff, q5, q10, q11, q12, qH1, z0e])) | ((refine zqd _ rfl (fun hc => ?_) (fun hc => ?_)) <;> (((try simp only [z03] at hc); (try (exfalso; omega))))) | refine zqa ?_ | refine zqb ?_ | refine zqv ?_ | refine zqy ?_ | (refine J _ ?_; clear J K))
  (refine Exists.intro _ (And.intro ?_ ⟨k + 1, rfl, ?_⟩)); rotate_left; (simp (disch := omega) only [go_sem, Nat.reduceBEq, Nat.reduceLeDiff, q5, q10, q11, q12, qH1, true_and, Int.natCast_add, Int.natCast_one, List.flatMap_append, List.flatMap_cons, List.flatMap_nil, List.map_append, List.map_cons, List.map_nil, List.append_nil, htk, z04]); rotate_left
  ·omega
  ·omega
 ·repeat' (first | ((refine zqh fun K J => ?_); (simp (disch := omega) only [go_sem, Nat.reduceBEq, ↓reduceIte, q5, q11, q12])) | ((refine zqd _ rfl (fun hc => ?_) (fun hc => ?_)) <;> (((try simp only [z03] at hc); (try (exfalso; omega))))) | refine zqc ?_ | refine zqn ?_ | refine zqv ?_ | refine zqz ?_ | refine zqp ?_ | refine zqu (by (simp (disch := omega) only [go_sem]); rfl) rfl ?_ | (refine J _ ?_; clear J K))
  have hk2 : k = (z2j u p).length := by omega
  subst hk2
  rw [List.take_length] at qH1
  have hl2 : (z2j u p).length = ((z2j u p).map T.id).length := by simp
  rw [hl2] at qH1 ⊢
  exact z4h (z22 (l := (z2j u p).map T.id) 0 qH1 z6e z9z (fun _ => rfl) (fun _ => rfl))
theorem z7e (u : T) (hs : szB u = true) (hc : cntT u <= 1100) (p : List Stp) (hl : p.length <= maxLen) (hps : ∀ s ∈ p, s.label.size <= maxLen) : PC Tryz.prog 31 [z17 u, z0a p] (.tup [z3h (z24 u p).1, .int .i64 (z24 u p).2]) := by
 have c1 := zkt u hs hc p hl hps
 refine z1y 3 (by simp only [pureD.pureL, z05, z0r, Bool.and_self]) rfl (z1w [] Tryz.func31 rfl (by decide +kernel) z0j (by decide +kernel) (by simp [Tryz.ntmps31]) ?_)
 show awp _ _ (Code.seq _ _) _ _
 rw [show Tryz.f31.results.toList = [.cell 4 23, .tmp 5] from rfl]
 have hz : Int.toNat 0 = 0 := rfl
 rcases Nat.lt_trichotomy (z40 u p).length 1 with h | h | h
 ·have h0 : z40 u p = [] := List.eq_nil_of_length_eq_zero (by omega)
  rw [zu4 h0]
  rw [h0] at c1
  repeat' (first | refine zqj ?_ | ((first | refine zqh fun K J => ?_ | refine zqs (c1) ?_); (simp (disch := omega) only [go_sem, Nat.reduceBEq, ↓reduceIte, Nat.reduceAdd, Nat.reduceLeDiff, z2i])) | ((refine zqm _ rfl (fun hc => ?_) (fun hc => ?_)) <;> (first | (cases hc; done) | ((try simp only [decide_eq_true_eq] at hc); (try (exfalso; omega))))) | refine zqa ?_ | refine zqn ?_ | refine zqx ?_ | refine z4a ?_ | refine zqu (by (simp (disch := omega) only [go_sem, Nat.reduceBEq, ↓reduceIte, Nat.reduceAdd, Nat.reduceLeDiff]); rfl) rfl ?_ | (refine J _ ?_; clear J K))
  exact z02 rfl (Le.refl _)
 ·rw [zu5 h]
  obtain ⟨i, hi⟩ : ∃ i, z40 u p = [i] := List.length_eq_one_iff.1 h
  have hg : (z40 u p)[0]'(by omega) = i := by simp only [hi, List.getElem_cons_zero]
  rw [hg]
  rw [hi] at c1
  repeat' (first | refine zqj ?_ | ((first | refine zqh fun K J => ?_ | refine zqs (c1) ?_); (simp (disch := omega) only [go_sem, Nat.reduceBEq, ↓reduceIte, reduceCtorEq, Nat.reduceAdd, Nat.reduceLeDiff, z2i, zfp, List.map_cons, List.map_nil])) | ((refine zqm _ rfl (fun hc => ?_) (fun hc => ?_)) <;> (first | (cases hc; done) | ((try simp only [z03] at hc); (try (exfalso; omega))))) | refine zqa ?_ | refine zqn ?_ | refine zqx ?_ | refine z4a ?_ | refine zqu (by (simp (disch := omega) only [go_sem, Nat.reduceBEq, ↓reduceIte, Nat.reduceAdd, Nat.reduceLeDiff]); rfl) rfl ?_ | (refine J _ ?_; clear J K))
  exact z02 rfl (Le.refl _)
 ·rw [zu6 h]
  have hne : ¬ (z40 u p).length = 0 := by omega
  repeat' (first | refine zqj ?_ | ((first | refine zqh fun K J => ?_ | refine zqs (c1) ?_); (simp (disch := omega) only [go_sem, Nat.reduceBEq, ↓reduceIte, Nat.reduceAdd, Nat.reduceLeDiff, z2i])) | ((refine zqm _ rfl (fun hc => ?_) (fun hc => ?_)) <;> (((try simp only [z03] at hc); (try (exfalso; omega))))) | refine zqa ?_ | refine zqk ?_ | refine zqn ?_ | refine zqv ?_ | refine zqy ?_ | refine zqu (by (simp (disch := omega) only [go_sem, Nat.reduceBEq, ↓reduceIte, Nat.reduceAdd, Nat.reduceLeDiff]); rfl) rfl ?_ | (refine J _ ?_; clear J K))
  exact z02 rfl (Le.refl _)
def whB (w : Int) : Bool := decide (0 <= w /\ w <= 3)
theorem zfw (w : Int) : PC Tryz.prog 30 [.int .i64 w] (.bool (whB w)) := by
 refine z1y 1 rfl rfl (z1w [] Tryz.func30 rfl (by decide +kernel) z0j (by decide +kernel) (by simp [Tryz.ntmps30]) ?_)
 show awp _ _ (Code.seq _ _) _ _
 repeat' (first | ((refine zqh fun K J => ?_); (simp (disch := omega) only [go_sem, Nat.reduceBEq, ↓reduceIte])) | refine zqn ?_ | refine zqu (by (simp (disch := omega) only [go_sem]); rfl) rfl ?_ | (refine J _ ?_; clear J K) | (refine zqf (fun hb => ?_) (fun hb => ?_) <;> (have hb2 := hb; try simp only [z03] at hb2) <;> ((first | have F := eq_false hb2 | have F := eq_true hb2); (simp (disch := omega) only [go_sem, Nat.reduceBEq, ↓reduceIte, F]); clear hb F; (try (exfalso; omega)))))
 all_goals first | exact z00 (decide_eq_true (by omega)).symm | exact z00 (decide_eq_false (by omega)).symm | exact z00 (decide_eq_decide.2 (by omega))
def z61 (s : Idv × Int) : List D := z04 s.1 ++ [.int .i64 s.2]
def zdl (s : Idv × Int) : D := .agg (z61 s)
def z82 (r : (Idv × Int) × Int) : D := .tup [zdl r.1, .int .i64 r.2]
theorem zih (u : T) (hs : szB u = true) (hd : depT u <= 1000000) (id : Idv) (k : Int) (hk : 0 <= k /\ k <= 1) :
  PC Tryz.prog 87 [z17 u, z3h id, .int .i64 k] (z82 (if (z2u id u).2.2 = true then (((z2u id u).1, (z2u id u).2.1 + k), 0) else ((Idv.zero, 0), 9))) := by
 have c1 := zi4 u (zr5 u hs) (by omega) id
 refine z1y 3 (by simp only [pureD.pureL, z05, pureD, Bool.and_self]; rfl) (by split <;> rfl) (z1w [] Tryz.func87 rfl (by decide +kernel) z0j (by decide +kernel) (by simp [Tryz.ntmps87]) ?_)
 show awp _ _ (Code.seq _ _) _ _
 rw [show Tryz.f87.results.toList = [.cell 6 73, .tmp 7] from rfl]
 have hb : -1 <= (z2u id u).2.1 /\ (z2u id u).2.1 <= 1000000 := by
  unfold z2u
  simp only
  split
  ·exact ⟨by simp only; omega, by simp only; omega⟩
  ·rename_i h
   have hw := z9y id u _ (List.getElem_mem (l := z1d id u) (n := (z1d id u).length - 2) (by omega))
   have hz := (z6a (z7d u hs _ hw)).1
   simp only
   split <;> omega
 cases ho : (z2u id u).2.2 with
 | true =>
  rw [ho] at c1
  repeat' (first | refine zqj ?_ | ((first | refine zqh fun K J => ?_ | refine zqs (c1) ?_); (simp (disch := omega) only [go_sem, Nat.reduceBEq, ↓reduceIte, Nat.reduceAdd, Nat.reduceLeDiff])) | ((refine zqd _ rfl (fun hc => ?_) (fun hc => ?_)) <;> (first | (cases hc; done) | ((try simp only [] at hc); (try (exfalso; omega))))) | refine zqb ?_ | refine zqn ?_ | refine zqu (by (simp (disch := omega) only [go_sem, Nat.reduceBEq, ↓reduceIte, Nat.reduceAdd, Nat.reduceLeDiff]); rfl) rfl ?_ | (refine J _ ?_; clear J K))
  exact z02 rfl (Le.refl _)
 | false =>
  rw [ho] at c1
  repeat' (first | refine zqj ?_ | ((first | refine zqh fun K J => ?_ | refine zqs (c1) ?_); (simp (disch := omega) only [go_sem, Nat.reduceBEq, ↓reduceIte, Nat.reduceAdd, Nat.reduceLeDiff])) | ((refine zqd _ rfl (fun hc => ?_) (fun hc => ?_)) <;> (first | (cases hc; done) | ((try simp only [] at hc); (try (exfalso; omega))))) | refine zqg ?_ | refine zqu (by (simp (disch := omega) only [go_sem, Nat.reduceBEq, ↓reduceIte, Nat.reduceAdd, Nat.reduceLeDiff]); rfl) rfl ?_ | (refine J _ ?_; clear J K))
  exact z02 rfl (Le.refl _)
theorem zrd (u : T) (hs : szB u = true) (hd : depT u <= 1000000) (id : Idv) {g : FuncId} (n : Int) (hg : PC Tryz.prog g [.int .i64 ((z07 id u).1.kids.length : Nat)] (.int .i64 n)) :
  PC Tryz.prog 82 [z17 u, z3h id, .fn g []] (z82 ((id, n), 0)) := by
 have c1 := zxy u (zr5 u hs) (by omega) id
 refine z1y 3 (by simp only [pureD.pureL, z05, pureD, Bool.and_self]; rfl) rfl (z1w [3000019, 5000021] Tryz.func82 rfl (by decide +kernel) z0j (by decide +kernel) (by simp [Tryz.ntmps82]) ?_)
 show awp _ _ (Code.seq _ _) _ _
 rw [show Tryz.f82.results.toList = [.cell 6 73, .tmp 7] from rfl]
 repeat' (first | ((first | refine zqh fun K J => ?_ | refine zqe (by decide +kernel) fun K J => ?_ | refine zqs (c1) ?_ | refine zqt (hg) ?_); (simp (disch := omega) only [go_sem, Nat.reduceBEq, Nat.reduceEqDiff, ↓reduceIte, reduceCtorEq, Nat.reduceAdd, Nat.reduceLeDiff, Nat.reduceLT, z0e])) | refine zqn ?_ | refine zqu (by (simp (disch := omega) only [go_sem, Nat.reduceBEq, ↓reduceIte, Nat.reduceAdd, Nat.reduceLeDiff]); rfl) rfl ?_ | (refine J _ ?_; clear J K))
 exact z02 rfl (Le.refl _)
theorem pc_l11 (n : Int) : PC Tryz.prog 83 [.int .i64 n] (.int .i64 0) := by
 refine z1y 1 rfl rfl (z1w [] Tryz.func83 rfl (by decide +kernel) z0j (by decide +kernel) (by simp [Tryz.ntmps83]) ?_)
 show awp _ _ (Code.seq _ _) _ _
 repeat' (first | ((refine zqh fun K J => ?_); (simp (disch := omega) only [go_sem])) | refine zqn ?_ | refine zqu (by (simp (disch := omega) only [go_sem]); rfl) rfl ?_ | (refine J _ ?_; clear J K))
 exact z33 rfl
theorem pc_l21 (n : Int) : PC Tryz.prog 85 [.int .i64 n] (.int .i64 n) := by
 refine z1y 1 rfl rfl (z1w [] Tryz.func85 rfl (by decide +kernel) z0j (by decide +kernel) (by simp [Tryz.ntmps85]) ?_)
 show awp _ _ (Code.seq _ _) _ _
 repeat' (first | ((refine zqh fun K J => ?_); (simp (disch := omega) only [go_sem, Nat.reduceBEq])) | refine zqn ?_ | refine zqu (by (simp (disch := omega) only [go_sem]); rfl) rfl ?_ | (refine J _ ?_; clear J K))
 exact z33 rfl
theorem zv5 (u : T) (hs : szB u = true) (hd : depT u <= 1000000) (id : Idv) : PC Tryz.prog 81 [z17 u, z3h id] (z82 (z4o u id 0)) := by
 have c1 := zrd u hs hd id 0 (pc_l11 _)
 refine z1y 3 (by simp only [pureD.pureL, z05]; rfl) rfl (z1w [] Tryz.func81 rfl (by decide +kernel) z0j (by decide +kernel) (by simp [Tryz.ntmps81]) ?_)
 show awp _ _ (Code.seq _ _) _ _
 rw [show Tryz.f81.results.toList = [.cell 4 73, .tmp 5] from rfl]
 unfold z82 zdl at c1
 repeat' (first | ((first | refine zqh fun K J => ?_ | refine zqs (c1) ?_); (simp (disch := omega) only [go_sem, Nat.reduceBEq, ↓reduceIte, Nat.reduceAdd, Nat.reduceLeDiff, z04, z61, List.cons_append, List.nil_append])) | refine zqn ?_ | refine zqu (by (simp (disch := omega) only [go_sem, Nat.reduceBEq, ↓reduceIte, Nat.reduceAdd, Nat.reduceLeDiff]); rfl) rfl ?_ | (refine J _ ?_; clear J K))
 all_goals exact z02 rfl (Le.refl _)
theorem zv6 (u : T) (hs : szB u = true) (hd : depT u <= 1000000) (id : Idv) : PC Tryz.prog 84 [z17 u, z3h id] (z82 (z4o u id 1)) := by
 have c1 := zrd u hs hd id _ (pc_l21 _)
 refine z1y 3 (by simp only [pureD.pureL, z05]; rfl) rfl (z1w [] Tryz.func84 rfl (by decide +kernel) z0j (by decide +kernel) (by simp [Tryz.ntmps84]) ?_)
 show awp _ _ (Code.seq _ _) _ _
 rw [show Tryz.f84.results.toList = [.cell 4 73, .tmp 5] from rfl]
 unfold z82 zdl at c1
 repeat' (first | ((first | refine zqh fun K J => ?_ | refine zqs (c1) ?_); (simp (disch := omega) only [go_sem, Nat.reduceBEq, ↓reduceIte, Nat.reduceAdd, Nat.reduceLeDiff, z04, z61, List.cons_append, List.nil_append])) | refine zqn ?_ | refine zqu (by (simp (disch := omega) only [go_sem, Nat.reduceBEq, ↓reduceIte, Nat.reduceAdd, Nat.reduceLeDiff]); rfl) rfl ?_ | (refine J _ ?_; clear J K))
 all_goals exact z02 rfl (Le.refl _)
theorem zv7 (u : T) (hs : szB u = true) (hd : depT u <= 1000000) (id : Idv) : PC Tryz.prog 86 [z17 u, z3h id] (z82 (z4o u id 2)) := by
 have c1 := zih u hs hd id 1 (by decide)
 refine z1y 3 (by simp only [pureD.pureL, z05]; rfl) rfl (z1w [] Tryz.func86 rfl (by decide +kernel) z0j (by decide +kernel) (by simp [Tryz.ntmps86]) ?_)
 show awp _ _ (Code.seq _ _) _ _
 rw [show Tryz.f86.results.toList = [.cell 4 73, .tmp 5] from rfl]
 unfold z82 zdl at c1
 repeat' (first | ((first | refine zqh fun K J => ?_ | refine zqs (c1) ?_); (simp (disch := omega) only [go_sem, Nat.reduceBEq, ↓reduceIte, Nat.reduceAdd, Nat.reduceLeDiff, z04, z61, List.cons_append, List.nil_append])) | refine zqn ?_ | refine zqu (by (simp (disch := omega) only [go_sem, Nat.reduceBEq, ↓reduceIte, Nat.reduceAdd, Nat.reduceLeDiff]); rfl) rfl ?_ | (refine J _ ?_; clear J K))
 all_goals exact z02 rfl (Le.refl _)
theorem zv8 (u : T) (hs : szB u = true) (hd : depT u <= 1000000) (id : Idv) : PC Tryz.prog 88 [z17 u, z3h id] (z82 (z4o u id 3)) := by
 have c1 := zih u hs hd id 0 (by decide)
 refine z1y 3 (by simp only [pureD.pureL, z05]; rfl) rfl (z1w [] Tryz.func88 rfl (by decide +kernel) z0j (by decide +kernel) (by simp [Tryz.ntmps88]) ?_)
 show awp _ _ (Code.seq _ _) _ _
 rw [show Tryz.f88.results.toList = [.cell 4 73, .tmp 5] from rfl]
 unfold z82 zdl at c1
 repeat' (first | ((first | refine zqh fun K J => ?_ | refine zqs (c1) ?_); (simp (disch := omega) only [go_sem, Nat.reduceBEq, ↓reduceIte, Nat.reduceAdd, Nat.reduceLeDiff, z04, z61, List.cons_append, List.nil_append])) | refine zqn ?_ | refine zqu (by (simp (disch := omega) only [go_sem, Nat.reduceBEq, ↓reduceIte, Nat.reduceAdd, Nat.reduceLeDiff]); rfl) rfl ?_ | (refine J _ ?_; clear J K))
 all_goals exact z02 rfl (Le.refl _)
theorem zmd : PC Tryz.prog 59 [] (.agg [.fn 81 [], .fn 84 [], .fn 86 [], .fn 88 []]) := by
 refine z1y 3 rfl rfl (z1w [] Tryz.func59 rfl (by decide +kernel) z0j (by decide +kernel) (by simp [Tryz.ntmps59]) ?_)
 show awp _ _ (Code.seq _ _) _ _
 repeat' (first | ((refine zqh fun K J => ?_); (simp (disch := omega) only [go_sem, ↓reduceIte, reduceCtorEq, Nat.reduceAdd, Nat.reduceLeDiff])) | refine zqn ?_ | refine zqu (by (simp (disch := omega) only [go_sem, Nat.reduceAdd]); rfl) rfl ?_ | (refine J _ ?_; clear J K))
 exact z02 rfl (Le.refl _)
end
section
open Abs Facts Tr
attribute [local irreducible] awp
set_option maxRecDepth 100000
theorem znv (l : List Idv) (hl : l.length <= 1000000) (k : Idv) : PC Tryz.prog 93 [z2i l, z3h k] (.int .i64 (if z2h (fun x => decide (k = x)) l < l.length then (z2h (fun x => decide (k = x)) l : Int) else -1)) := by
 refine z1y 1 (by simp only [pureD.pureL, z4q]; rfl) rfl (z1w [] Tryz.func93 rfl (by decide +kernel) z0j (by decide +kernel) (by simp [Tryz.ntmps93]) ?_)
 show awp _ _ (Code.seq _ _) _ _
 repeat' (first | refine zqj ?_ | ((refine zqh fun K J => ?_); (simp (disch := omega) only [go_sem, Nat.reduceBEq, z2i])) | refine zqa ?_ | (refine J _ ?_; clear J K))
 (refine z37 (fun U st => ∃ (i : _), U = l.length - i /\ st.t 0 = z2i l /\ st.t 3 = .ptr 0 0 /\ st.t 7 = .int .i64 l.length /\ st.t 8 = .int .i64 i /\ st.H 0 = some (.box 23 (z04 k)) /\ (i <= l.length) /\ (∀ j, (hj : j < i) -> (h : j < l.length) -> decide (k = l[j]) = false)) ?_ ?_); rotate_left; (rintro U st ⟨i, rfl, q0, q3, q7, q8, qH0, qp0, qp1⟩); rotate_left
 ·(refine ⟨_, 0, rfl, ?_⟩); (simp (disch := omega) only [go_sem, Nat.reduceBEq, true_and, Int.natCast_zero, z2i, z04])
  intro j hj; omega
 repeat' (first | ((first | refine zqh fun K J => ?_ | refine zqe (by decide +kernel) fun K J => ?_ | refine zqr fun K J => ?_); (simp (disch := omega) only [go_sem, Nat.reduceBEq, ↓reduceIte, reduceCtorEq, Nat.reduceAdd, Nat.reduceLeDiff, q0, q3, q7, q8, qH0, z2i, z04])) | ((first | refine zqd _ rfl (fun hc => ?_) (fun hc => ?_) | refine zqm _ rfl (fun hc => ?_) (fun hc => ?_)) <;> (((try simp only [z03] at hc); (try (exfalso; omega))))) | refine zqa ?_ | refine zqb ?_ | refine zqc ?_ | refine zqk ?_ | refine zqn ?_ | refine zqv ?_ | refine zqx ?_ | refine zqy ?_ | refine zqz ?_ | refine z4a ?_ | refine zqp ?_ | refine zqo ?_ | refine zqu (by (simp (disch := omega) only [go_sem]); rfl) rfl ?_ | (refine J _ ?_; clear J K))
 ·refine z33 ?_
  have hf := z41 (f := fun x => decide (k = x)) (l := l) (k := i) (by omega) (fun j hj => qp1 j hj (by omega)) (fun h => decide_eq_true (by assumption))
  rw [hf, if_pos (by omega)]
 ·(refine Exists.intro _ (And.intro ?_ ⟨i + 1, rfl, ?_⟩)); rotate_left; (simp (disch := omega) only [go_sem, Nat.reduceBEq, q0, q3, q7, q8, qH0, true_and, Int.natCast_add, Int.natCast_one, z04]); rotate_left
  ·omega
  ·refine ⟨by omega, fun j hj h => ?_⟩
   by_cases e : j = i
   ·subst e; exact decide_eq_false (by assumption)
   ·exact qp1 j (by omega) h
 ·refine z33 ?_
  have hi : i = l.length := by omega
  subst hi
  have hf := z41 (f := fun x => decide (k = x)) (l := l) (k := l.length) (by omega) (fun j hj => qp1 j hj (by omega)) (fun h => by omega)
  rw [hf, if_neg (by omega)]
theorem zh7 (l : List Idv) (hl : l.length <= 1000000) (k : Idv) : PC Tryz.prog 62 [z2i l, z3h k] (.bool (decide (k ∈ l))) := by
 have h := znv l hl k
 refine z1y 1 (by simp only [pureD.pureL, z4q]; rfl) rfl (z1w [] Tryz.func62 rfl (by decide +kernel) z0j (by decide +kernel) (by simp [Tryz.ntmps62]) ?_)
 show awp _ _ (Code.seq _ _) _ _
 have hlt := zhu (fun x => decide (k = x)) l
 have hm : l.any (fun x => decide (k = x)) = decide (k ∈ l) := by
  rw [Bool.eq_iff_iff]; simp
 repeat' (first | ((first | refine zqh fun K J => ?_ | refine zqs (h) ?_); (simp (disch := omega) only [go_sem, Nat.reduceBEq, ↓reduceIte, Nat.reduceAdd, Nat.reduceLeDiff])) | refine zqn ?_ | refine zqu (by (simp (disch := omega) only [go_sem]); rfl) rfl ?_ | (refine J _ ?_; clear J K))
 refine z00 ?_
 rw [<- hm, <- hlt]
 by_cases h : z2h (fun x => decide (k = x)) l < l.length
 ·rw [if_pos h]; simp [h]
 ·rw [if_neg h]; simp [h]
def zd7 (u : T) (p : List Stp) (w : Int) : (Idv × Int) × Int :=
 if whB w = false then ((Idv.zero, 0), 1) else if (z24 u p).2 = 0 then z4o u (z24 u p).1 w else ((Idv.zero, 0), (z24 u p).2)
def zv4 (r : (Idv × Int) × Int) : D := .tup [z3h r.1.1, .int .i64 r.1.2, .int .i64 r.2]
theorem zmc (u : T) (id : Idv) (w : Int) : (z4o u id w).2 = 0 \/ z4o u id w = ((Idv.zero, 0), 9) := by
 unfold z4o; split
 ·exact .inl rfl
 split
 ·exact .inl rfl
 split
 ·exact .inl rfl
 ·exact .inr rfl
def leadF (w : Int) : FuncId := if w = 0 then 81 else if w = 1 then 84 else if w = 2 then 86 else 88
theorem zra (u : T) (hs : szB u = true) (hd : depT u <= 1000000) (id : Idv) (w : Int) (hw : 0 <= w /\ w <= 3) : PC Tryz.prog (leadF w) [z17 u, z3h id] (z82 (z4o u id w)) := by
 rcases wh4 hw with rfl | rfl | rfl | rfl
 ·exact zv5 u hs hd id
 ·exact zv6 u hs hd id
 ·exact zv7 u hs hd id
 ·exact zv8 u hs hd id
theorem zrb (w : Int) (hw : 0 <= w /\ w <= 3) : ([D.fn 81 [], .fn 84 [], .fn 86 [], .fn 88 []] : List D)[w.toNat]? = some (.fn (leadF w) []) := by
 rcases wh4 hw with rfl | rfl | rfl | rfl <;> rfl
theorem zbj (u : T) (hs : szB u = true) (hc : cntT u <= 1100) (hd : depT u <= 1000000) (p : List Stp) (hl : p.length <= maxLen) (hps : ∀ s ∈ p, s.label.size <= maxLen) (w : Int) :
  PC Tryz.prog 29 [z17 u, z0a p, .int .i64 w] (zv4 (zd7 u p w)) := by
 have c1 := zfw w
 have c2 := z7e u hs hc p hl hps
 have c3 := zmd
 refine z1y 3 (by simp only [pureD.pureL, z05, z0r, pureD, Bool.and_self]) rfl (z1w [5000027, 5000032, 3000030, 3000031, 600006, 900001, 600042, 900003, 600040, 900003] Tryz.func29 rfl (by decide +kernel) z0j (by decide +kernel) (by simp [Tryz.ntmps29]) ?_)
 show awp _ _ (Code.seq _ _) _ _
 rw [show Tryz.f29.results.toList = [.cell 6 23, .tmp 7, .tmp 8] from rfl]
 unfold zd7
 by_cases hw : whB w = true
 ·rw [if_neg (by rw [hw]; simp)]
  rw [hw] at c1
  have hw4 : 0 <= w /\ w <= 3 := of_decide_eq_true hw
  by_cases he : (z24 u p).2 = 0
  ·rw [if_pos he]
   rw [he] at c2
   have c4 := zra u hs hd (z24 u p).1 w hw4
   have hix := zrb w hw4
   rcases zmc u (z24 u p).1 w with h0 | h0
   ·generalize z4o u (z24 u p).1 w = r at *
    obtain ⟨⟨i, n⟩, e⟩ := r
    simp only at h0
    subst h0
    repeat' (first | refine zqj ?_ | ((first | refine zqh fun K J => ?_ | refine zqe (by decide +kernel) fun K J => ?_ | refine zqs (c1) ?_ | refine zqs (c2) ?_ | refine zqt (c3) ?_ | refine zqt (c4) ?_); (simp (disch := omega) only [go_sem, Nat.reduceBEq, Nat.reduceEqDiff, ↓reduceIte, reduceCtorEq, Nat.reduceAdd, Nat.reduceLeDiff, Nat.reduceLT, z04, z61, zdl, z82, List.cons_append, List.nil_append, hix])) | ((refine zqd _ rfl (fun hc => ?_) (fun hc => ?_)) <;> (first | (cases hc; done) | ((try simp only [] at hc); (try (exfalso; omega))))) | refine zqb ?_ | refine zqn ?_ | refine zqu (by (simp (disch := omega) only [go_sem, Nat.reduceBEq, ↓reduceIte, Nat.reduceAdd, Nat.reduceLeDiff]); rfl) rfl ?_ | (refine J _ ?_; clear J K))
    exact z02 rfl (Le.refl _)
   ·rw [h0] at c4 ⊢
    repeat' (first | refine zqj ?_ | ((first | refine zqh fun K J => ?_ | refine zqe (by decide +kernel) fun K J => ?_ | refine zqs (c1) ?_ | refine zqs (c2) ?_ | refine zqt (c3) ?_ | refine zqt (c4) ?_); (simp (disch := omega) only [go_sem, Nat.reduceBEq, Nat.reduceEqDiff, ↓reduceIte, reduceCtorEq, Nat.reduceAdd, Nat.reduceLeDiff, Nat.reduceLT, Int.reduceEq, z04, z61, zdl, z82, List.cons_append, List.nil_append, hix])) | ((refine zqd _ rfl (fun hc => ?_) (fun hc => ?_)) <;> (first | (cases hc; done) | ((try simp only [] at hc); (try (exfalso; omega))))) | refine zqb ?_ | refine zqg ?_ | refine zqu (by (simp (disch := omega) only [go_sem, Nat.reduceBEq, ↓reduceIte, Nat.reduceAdd, Nat.reduceLeDiff]); rfl) rfl ?_ | (refine J _ ?_; clear J K))
    exact z02 rfl (Le.refl _)
  ·rw [if_neg he]
   repeat' (first | refine zqj ?_ | ((first | refine zqh fun K J => ?_ | refine zqs (c1) ?_ | refine zqs (c2) ?_); (simp (disch := omega) only [go_sem, Nat.reduceBEq, ↓reduceIte, Nat.reduceAdd, Nat.reduceLeDiff])) | ((refine zqd _ rfl (fun hc => ?_) (fun hc => ?_)) <;> (first | (cases hc; done) | ((try simp only [z03] at hc); (try (exfalso; omega))))) | refine zqb ?_ | refine zqg ?_ | refine zqu (by (simp (disch := omega) only [go_sem, Nat.reduceBEq, ↓reduceIte, Nat.reduceAdd, Nat.reduceLeDiff]); rfl) rfl ?_ | (refine J _ ?_; clear J K))
   exact z02 rfl (Le.refl _)
 ·rw [Bool.not_eq_true] at hw
  rw [if_pos hw]
  rw [hw] at c1
  repeat' (first | refine zqj ?_ | ((first | refine zqh fun K J => ?_ | refine zqs (c1) ?_); (simp (disch := omega) only [go_sem, Nat.reduceBEq, ↓reduceIte, Nat.reduceAdd, Nat.reduceLeDiff])) | ((refine zqd _ rfl (fun hc => ?_) (fun hc => ?_)) <;> (first | (cases hc; done) | ((try simp only [] at hc); (try (exfalso; omega))))) | refine zqg ?_ | refine zqu (by (simp (disch := omega) only [go_sem, Nat.reduceBEq, ↓reduceIte, Nat.reduceAdd, Nat.reduceLeDiff]); rfl) rfl ?_ | (refine J _ ?_; clear J K))
  exact z02 rfl (Le.refl _)
theorem zrc (u : T) (hs : szB u = true) (id : Idv) (w : Int) : -1 <= (z4o u id w).1.2 /\ (z4o u id w).1.2 <= 1000001 := by
 have hb : -1 <= (z2u id u).2.1 /\ (z2u id u).2.1 <= 1000000 := by
  unfold z2u
  simp only
  split
  ·exact ⟨by simp only; omega, by simp only; omega⟩
  ·rename_i h
   have hw := z9y id u _ (List.getElem_mem (l := z1d id u) (n := (z1d id u).length - 2) (by omega))
   have hz := (z6a (z7d u hs _ hw)).1
   simp only
   split <;> omega
 have hk := (z6a (zbk id u hs)).1
 unfold z4o
 split
 ·simp only; omega
 split
 ·simp only; omega
 split
 ·simp only; split <;> omega
 ·simp only; omega
def goV (to id : Idv) (w : Int) (anc : List Idv) (p : Idv × Int × Bool) (s : (Idv × Int) × Int) : (Idv × Int) × Int :=
 if p.2.2 = false \/ (¬ to = id /\ id ∈ anc) \/ (to = id /\ zaa w = false) then ((Idv.zero, 0), 9) else
 if to = id then ((p.1, p.2.1), 0) else
 if s.2 = 0 /\ s.1.1 = p.1 /\ p.2.1 < s.1.2 then ((s.1.1, s.1.2 - 1), s.2) else s
section
variable {to id own i : Idv} {w n z e : Int} {anc : List Idv} {ok : Bool}
theorem goV_1 (h : ok = false) : goV to id w anc (own, n, ok) ((i, z), e) = ((Idv.zero, 0), 9) := if_pos (.inl h)
theorem goV_2 (h : ¬ to = id) (h2 : id ∈ anc) : goV to id w anc (own, n, ok) ((i, z), e) = ((Idv.zero, 0), 9) := if_pos (.inr (.inl ⟨h, h2⟩))
theorem goV_3 (h : to = id) (h2 : zaa w = false) : goV to id w anc (own, n, ok) ((i, z), e) = ((Idv.zero, 0), 9) := if_pos (.inr (.inr ⟨h, h2⟩))
theorem goV_4 (h0 : ok = true) (h : to = id) (h2 : zaa w = true) : goV to id w anc (own, n, ok) ((i, z), e) = ((own, n), 0) := by
 unfold goV; rw [if_neg (by simp [h0, h, h2]), if_pos h]
theorem goV_5 (h0 : ok = true) (h : ¬ to = id) (h2 : ¬ id ∈ anc) (h3 : e = 0) (h4 : i = own) (h5 : n < z) : goV to id w anc (own, n, ok) ((i, z), e) = ((i, z - 1), e) := by
 unfold goV; rw [if_neg (by simp [h0, h, h2]), if_neg h, if_pos ⟨h3, h4, h5⟩]
theorem goV_6 (h0 : ok = true) (h : ¬ to = id) (h2 : ¬ id ∈ anc) (h3 : ¬ e = 0 \/ ¬ i = own \/ ¬ n < z) : goV to id w anc (own, n, ok) ((i, z), e) = ((i, z), e) := by
 unfold goV; rw [if_neg (by simp [h0, h, h2]), if_neg h, if_neg (by rintro ⟨a, b, c⟩; rcases h3 with g | g | g; exact g a; exact g b; exact g c)]
end
theorem zyn (u : T) (hs : szB u = true) (hd : depT u <= 1000000) (id to : Idv) (w : Int) (hw : 0 <= w /\ w <= 3) :
  PC Tryz.prog 32 [z17 u, z3h id, z3h to, .int .i64 w] (z82 (zev u id to w)) := by
 have c1 := zi4 u (zr5 u hs) (by omega) id
 have c2 := zi5 u (zr5 u hs) (by omega) to
 have hal := zv9 to u
 have c3 := zh7 (z5f to u) (by omega) id
 have c4 := zmd
 have c5 := zra u hs hd to w hw
 have hix := zrb w hw
 have hsb := zrc u hs to w
 have hbes : zaa w = decide (w = 2 \/ w = 3) := rfl
 refine z1y 3 (by simp only [pureD.pureL, z05, pureD, Bool.and_self]; rfl) rfl (z1w [5000062, 5000067, 3000065, 3000066] Tryz.func32 rfl (by decide +kernel) z0j (by decide +kernel) (by simp [Tryz.ntmps32]) ?_)
 show awp _ _ (Code.seq _ _) _ _
 rw [show Tryz.f32.results.toList = [.cell 8 73, .tmp 9] from rfl]
 rw [show zev u id to w = goV to id w (z5f to u) (z2u id u) (z4o u to w) from rfl]
 generalize hpr : z2u id u = pr at c1 ⊢
 obtain ⟨own, n, ok⟩ := pr
 generalize hlr : z4o u to w = lr at c5 hsb ⊢
 obtain ⟨⟨i, z⟩, e⟩ := lr
 simp only at c1 c5 hsb
 clear hpr hlr hal
 by_cases h2 : w = 2
 all_goals
  (repeat' (first | ((first | refine z01 (N := 3) rfl fun K J => ?_ | refine zqs (c1) ?_); (simp (disch := omega) only [go_sem, Nat.reduceBEq, ↓reduceIte, Nat.reduceAdd, Nat.reduceLeDiff, h2])) | (refine J _ ?_; clear J K)))
 ·have hb : zaa w = true := by rw [hbes, h2]; rfl
  (refine z1c (fun st => st.t 3 = .int .i64 w /\ st.t 4 = .ptr 0 0 /\ st.t 5 = .ptr 1 0 /\ st.t 6 = .ptr 2 0 /\ st.t 8 = .ptr 3 0 /\ st.t 10 = .bool true /\ st.t 11 = .ptr 4 0 /\ st.t 12 = .int .i64 n /\ st.t 13 = .bool ok /\ st.H 0 = some (.box 27 (z06 u)) /\ st.H 1 = some (.box 23 (z04 id)) /\ st.H 2 = some (.box 23 (z04 to)) /\ st.H 3 = some (.box 73 [.int .i64 0, .int .i64 0, .int .i64 0, .int .i64 0]) /\ st.H 4 = some (.box 23 (z04 own)) /\ st.nx = 5) ?_ ?_); rotate_left; (rintro st ⟨p3, p4, p5, p6, p8, p10, p11, p12, p13, pH0, pH1, pH2, pH3, pH4, pnx⟩); rotate_left
  ·(simp (disch := omega) only [go_sem, Nat.reduceBEq, and_self, z04, h2])
  repeat' (first | refine zqj ?_ | ((first | refine zqh fun K J => ?_ | refine zqe (by decide +kernel) fun K J => ?_ | refine zqt (c2) ?_ | refine zqt (c3) ?_ | refine zqt (c4) ?_ | refine zqt (c5) ?_); (simp (disch := omega) only [go_sem, Nat.reduceBEq, Nat.reduceEqDiff, ↓reduceIte, reduceCtorEq, Nat.reduceAdd, Nat.reduceLeDiff, Nat.reduceLT, p3, p4, p5, p6, p8, p11, p12, p13, pH0, pH1, pH2, pH3, pH4, pnx, z04, z61, zdl, z82, List.cons_append, List.nil_append, hix])) | ((refine zqd _ rfl (fun hc => ?_) (fun hc => ?_)) <;> (first | (cases hc; done) | ((try simp only [z03] at hc); (try (exfalso; omega))))) | refine zqb ?_ | refine zqg ?_ | refine zqn ?_ | refine zqu (by (simp (disch := omega) only [go_sem, Nat.reduceBEq, ↓reduceIte, Nat.reduceAdd, Nat.reduceLeDiff, p8, pH3]); rfl) rfl ?_ | (refine J _ ?_; clear J K) | (refine zqf (fun hb => ?_) (fun hb => ?_) <;> (have hb2 := hb; try simp only [z03] at hb2) <;> ((first | have F : (_ : Bool) = _ := hb2 | have F := eq_false hb2 | have F := eq_true hb2); (simp (disch := omega) only [go_sem, Nat.reduceBEq, Nat.reduceEqDiff, ↓reduceIte, reduceCtorEq, Nat.reduceAdd, Nat.reduceLeDiff, F, p4, p5, p6, p10, p11, p12, pH0, pH1, pH2, pH4, pnx, z04]); clear hb F; (try (exfalso; omega)))))
  all_goals first
   | contradiction
   | (rw [goV_1 (by assumption)]; exact z02 rfl (Le.refl _))
   | (rw [goV_2 (by assumption) (by assumption)]; exact z02 rfl (Le.refl _))
   | (rw [goV_3 (by assumption) (by assumption)]; exact z02 rfl (Le.refl _))
   | (rw [goV_4 (by assumption) (by assumption) (by assumption)]; exact z02 rfl (Le.refl _))
   | (rw [goV_5 (by assumption) (by assumption) (by assumption) (by assumption) (by assumption) (by assumption)]; exact z02 rfl (Le.refl _))
   | (rw [goV_6 (by assumption) (by assumption) (by assumption) (by first | (left; assumption) | (right; left; assumption) | (right; right; assumption))]; exact z02 rfl (Le.refl _))
 ·have F : zaa w = decide (w = 3) := by rw [hbes, decide_eq_decide]; omega
  (refine z1c (fun st => st.t 3 = .int .i64 w /\ st.t 4 = .ptr 0 0 /\ st.t 5 = .ptr 1 0 /\ st.t 6 = .ptr 2 0 /\ st.t 8 = .ptr 3 0 /\ st.t 10 = .bool (zaa w) /\ st.t 11 = .ptr 4 0 /\ st.t 12 = .int .i64 n /\ st.t 13 = .bool ok /\ st.H 0 = some (.box 27 (z06 u)) /\ st.H 1 = some (.box 23 (z04 id)) /\ st.H 2 = some (.box 23 (z04 to)) /\ st.H 3 = some (.box 73 [.int .i64 0, .int .i64 0, .int .i64 0, .int .i64 0]) /\ st.H 4 = some (.box 23 (z04 own)) /\ st.nx = 5) ?_ ?_); rotate_left; (rintro st ⟨p3, p4, p5, p6, p8, p10, p11, p12, p13, pH0, pH1, pH2, pH3, pH4, pnx⟩); rotate_left
  ·(simp (disch := omega) only [go_sem, Nat.reduceBEq, and_self, z04, <- F])
  repeat' (first | refine zqj ?_ | ((first | refine zqh fun K J => ?_ | refine zqe (by decide +kernel) fun K J => ?_ | refine zqt (c2) ?_ | refine zqt (c3) ?_ | refine zqt (c4) ?_ | refine zqt (c5) ?_); (simp (disch := omega) only [go_sem, Nat.reduceBEq, Nat.reduceEqDiff, ↓reduceIte, reduceCtorEq, Nat.reduceAdd, Nat.reduceLeDiff, Nat.reduceLT, p3, p4, p5, p6, p8, p11, p12, p13, pH0, pH1, pH2, pH3, pH4, pnx, z04, z61, zdl, z82, List.cons_append, List.nil_append, hix])) | ((refine zqd _ rfl (fun hc => ?_) (fun hc => ?_)) <;> (first | (cases hc; done) | ((try simp only [z03] at hc); (try (exfalso; omega))))) | refine zqb ?_ | refine zqg ?_ | refine zqn ?_ | refine zqu (by (simp (disch := omega) only [go_sem, Nat.reduceBEq, ↓reduceIte, Nat.reduceAdd, Nat.reduceLeDiff, p8, pH3]); rfl) rfl ?_ | (refine J _ ?_; clear J K) | (refine zqf (fun hb => ?_) (fun hb => ?_) <;> (have hb2 := hb; try simp only [z03] at hb2) <;> ((first | have F : (_ : Bool) = _ := hb2 | have F := eq_false hb2 | have F := eq_true hb2); (simp (disch := omega) only [go_sem, Nat.reduceBEq, Nat.reduceEqDiff, ↓reduceIte, reduceCtorEq, Nat.reduceAdd, Nat.reduceLeDiff, F, p4, p5, p6, p10, p11, p12, pH0, pH1, pH2, pH4, pnx, z04]); clear hb F; (try (exfalso; omega)))))
  all_goals first
   | contradiction
   | (rw [goV_1 (by assumption)]; exact z02 rfl (Le.refl _))
   | (rw [goV_2 (by assumption) (by assumption)]; exact z02 rfl (Le.refl _))
   | (rw [goV_3 (by assumption) (by assumption)]; exact z02 rfl (Le.refl _))
   | (rw [goV_4 (by assumption) (by assumption) (by assumption)]; exact z02 rfl (Le.refl _))
   | (rw [goV_5 (by assumption) (by assumption) (by assumption) (by assumption) (by assumption) (by assumption)]; exact z02 rfl (Le.refl _))
   | (rw [goV_6 (by assumption) (by assumption) (by assumption) (by first | (left; assumption) | (right; left; assumption) | (right; right; assumption))]; exact z02 rfl (Le.refl _))
end
section
open Abs Facts Tr
attribute [local irreducible] awp
set_option maxRecDepth 100000
def zx5 (u : T) (x : It) : (Idv × Int) × Int :=
 if x.kind = 0 then zd7 u x.at_ x.wh else if ¬ x.kind = 6 \/ whB x.wh = false then ((Idv.zero, 0), 1) else
 if ¬ (z24 u x.at_).2 = 0 then ((Idv.zero, 0), (z24 u x.at_).2) else if ¬ (z24 u x.to).2 = 0 then ((Idv.zero, 0), (z24 u x.to).2) else
 zev u (z24 u x.at_).1 (z24 u x.to).1 x.wh
theorem zx6 (u : T) (id to : Idv) (w : Int) : (zev u id to w).2 = 0 \/ zev u id to w = ((Idv.zero, 0), 9) := by
 unfold zev
 split
 ·exact .inr rfl
 split
 ·exact .inl rfl
 rcases zmc u to w with h | h
 ·split
  ·exact .inl h
  ·exact .inl h
 ·rw [h, if_neg (by rintro ⟨g, _⟩; cases g)]
  exact .inr rfl
theorem zft (u : T) (hs : szB u = true) (hc : cntT u <= 1100) (hd : depT u <= 1000000) (x : It) (ha : x.at_.length <= maxLen) (has : ∀ s ∈ x.at_, s.label.size <= maxLen) (ht : x.to.length <= maxLen) (hts : ∀ s ∈ x.to, s.label.size <= maxLen) :
  PC Tryz.prog 8 [z17 u, zc5 x] (zv4 (zx5 u x)) := by
 have c1 := zbj u hs hc hd x.at_ ha has x.wh
 have c2 := zfw x.wh
 have c3 := z7e u hs hc x.at_ ha has
 have c4 := z7e u hs hc x.to ht hts
 refine z1y 3 (by simp only [pureD.pureL, z05, z48, Bool.and_self]) rfl (z1w [600071, 900005, 600069, 900005, 600004, 900002] Tryz.func8 rfl (by decide +kernel) z0j (by decide +kernel) (by simp [Tryz.ntmps8]) ?_)
 show awp _ _ (Code.seq _ _) _ _
 rw [show Tryz.f8.results.toList = [.cell 4 23, .tmp 5, .tmp 6] from rfl]
 unfold zx5
 by_cases hk : x.kind = 0
 ·rw [if_pos hk]
  generalize zd7 u x.at_ x.wh = r at c1 ⊢
  obtain ⟨⟨i, z⟩, e⟩ := r
  repeat' (first | refine zqj ?_ | ((first | refine zqh fun K J => ?_ | refine zqs (c1) ?_); (simp (disch := omega) only [go_sem, Nat.reduceBEq, ↓reduceIte, reduceCtorEq, Nat.reduceAdd, Nat.reduceLeDiff, zv4, hk])) | ((refine zqd _ rfl (fun hc => ?_) (fun hc => ?_)) <;> (first | (cases hc; done) | ((try simp only [] at hc); (try (exfalso; omega))))) | refine zqg ?_ | refine zqu (by (simp (disch := omega) only [go_sem, Nat.reduceBEq, ↓reduceIte, Nat.reduceAdd, Nat.reduceLeDiff]); rfl) rfl ?_ | (refine J _ ?_; clear J K))
  exact z02 rfl (Le.refl _)
 ·rw [if_neg hk]
  by_cases h2 : ¬ x.kind = 6 \/ whB x.wh = false
  ·rw [if_pos h2]
   repeat' (first | refine zqj ?_ | ((first | refine zqh fun K J => ?_ | refine zqs (c2) ?_); (simp (disch := omega) only [go_sem, Nat.reduceBEq, ↓reduceIte, reduceCtorEq, Nat.reduceAdd, Nat.reduceLeDiff, z0a])) | ((refine zqd _ rfl (fun hc => ?_) (fun hc => ?_)) <;> (first | (cases hc; done) | ((try simp only [z03] at hc); (try (exfalso; omega))))) | refine zqb ?_ | refine zqg ?_ | refine zqu (by (simp (disch := omega) only [go_sem, Nat.reduceBEq, ↓reduceIte, Nat.reduceAdd, Nat.reduceLeDiff]); rfl) rfl ?_ | (refine J _ ?_; clear J K) | (refine zqf (fun hb => ?_) (fun hb => ?_) <;> (have hb2 := hb; try simp only [z03] at hb2) <;> ((first | have F := eq_false hb2 | have F := eq_true hb2); (simp (disch := omega) only [go_sem, Nat.reduceBEq, ↓reduceIte, reduceCtorEq, Nat.reduceAdd, F]); clear hb F; (try (exfalso; omega)))))
   all_goals first | exact z02 rfl (Le.refl _) | (exfalso; simp_all; done)
  ·rw [if_neg h2]
   simp only [not_or, Classical.not_not, Bool.not_eq_false] at h2
   obtain ⟨hk6, hw⟩ := h2
   rw [hw] at c2
   have hw4 : 0 <= x.wh /\ x.wh <= 3 := of_decide_eq_true hw
   clear c1
   generalize z24 u x.at_ = r1 at c3 ⊢
   generalize z24 u x.to = r2 at c4 ⊢
   obtain ⟨i1, e1⟩ := r1
   obtain ⟨i2, e2⟩ := r2
   simp only at c3 c4
   have c5 := zyn u hs hd i1 i2 x.wh hw4
   have hge := zx6 u i1 i2 x.wh
   by_cases h3 : e1 = 0
   ·subst h3
    rw [if_neg (by simp)]
    by_cases h4 : e2 = 0
    ·subst h4
     rw [if_neg (by simp)]
     rcases hge with h0 | h0
     ·generalize zev u i1 i2 x.wh = r at c5 h0 ⊢
      obtain ⟨⟨i, n⟩, e⟩ := r
      simp only at h0
      subst h0
      repeat' (first | refine zqj ?_ | ((first | refine zqh fun K J => ?_ | refine zqe (by decide +kernel) fun K J => ?_ | refine zqs (c2) ?_ | refine zqs (c3) ?_ | refine zqs (c4) ?_ | refine zqs (c5) ?_); (simp (disch := omega) only [go_sem, Nat.reduceBEq, Nat.reduceEqDiff, ↓reduceIte, reduceCtorEq, Nat.reduceAdd, Nat.reduceLeDiff, Int.reduceEq, z04, z61, zdl, z82, z0a, List.cons_append, List.nil_append, hk6])) | ((refine zqd _ rfl (fun hc => ?_) (fun hc => ?_)) <;> (first | (cases hc; done) | ((try simp only [] at hc); (try (exfalso; omega))))) | refine zqb ?_ | refine zqn ?_ | refine zqu (by (simp (disch := omega) only [go_sem, Nat.reduceBEq, ↓reduceIte, Nat.reduceAdd, Nat.reduceLeDiff]); rfl) rfl ?_ | (refine J _ ?_; clear J K))
      exact z02 rfl (Le.refl _)
     ·rw [h0] at c5 ⊢
      repeat' (first | refine zqj ?_ | ((first | refine zqh fun K J => ?_ | refine zqs (c2) ?_ | refine zqs (c3) ?_ | refine zqs (c4) ?_ | refine zqs (c5) ?_); (simp (disch := omega) only [go_sem, Nat.reduceBEq, ↓reduceIte, reduceCtorEq, Nat.reduceAdd, Nat.reduceLeDiff, Int.reduceEq, z04, z61, zdl, z82, z0a, List.cons_append, List.nil_append, hk6])) | ((refine zqd _ rfl (fun hc => ?_) (fun hc => ?_)) <;> (first | (cases hc; done) | ((try simp only [] at hc); (try (exfalso; omega))))) | refine zqb ?_ | refine zqg ?_ | refine zqu (by (simp (disch := omega) only [go_sem, Nat.reduceBEq, ↓reduceIte, Nat.reduceAdd, Nat.reduceLeDiff]); rfl) rfl ?_ | (refine J _ ?_; clear J K))
      exact z02 rfl (Le.refl _)
    ·rw [if_pos h4]
     repeat' (first | refine zqj ?_ | ((first | refine zqh fun K J => ?_ | refine zqs (c2) ?_ | refine zqs (c3) ?_ | refine zqs (c4) ?_); (simp (disch := omega) only [go_sem, Nat.reduceBEq, ↓reduceIte, reduceCtorEq, Nat.reduceAdd, Nat.reduceLeDiff, Int.reduceEq, z0a, hk6])) | ((refine zqd _ rfl (fun hc => ?_) (fun hc => ?_)) <;> (first | (cases hc; done) | ((try simp only [z03] at hc); (try (exfalso; omega))))) | refine zqb ?_ | refine zqg ?_ | refine zqu (by (simp (disch := omega) only [go_sem, Nat.reduceBEq, ↓reduceIte, Nat.reduceAdd, Nat.reduceLeDiff]); rfl) rfl ?_ | (refine J _ ?_; clear J K))
     exact z02 rfl (Le.refl _)
   ·rw [if_pos h3]
    repeat' (first | refine zqj ?_ | ((first | refine zqh fun K J => ?_ | refine zqs (c2) ?_ | refine zqs (c3) ?_); (simp (disch := omega) only [go_sem, Nat.reduceBEq, ↓reduceIte, reduceCtorEq, Nat.reduceAdd, Nat.reduceLeDiff, Int.reduceEq, z0a, hk6])) | ((refine zqd _ rfl (fun hc => ?_) (fun hc => ?_)) <;> (first | (cases hc; done) | ((try simp only [z03] at hc); (try (exfalso; omega))))) | refine zqb ?_ | refine zqg ?_ | refine zqu (by (simp (disch := omega) only [go_sem, Nat.reduceBEq, ↓reduceIte, Nat.reduceAdd, Nat.reduceLeDiff]); rfl) rfl ?_ | (refine J _ ?_; clear J K))
    exact z02 rfl (Le.refl _)
end
section
open Abs Facts Tr
namespace Tr
def zpe (u : T) (most : Int) : Bool := zvi u most && (decide (u.kind = 0) && (z71 u && (decide (u.kids.length = 0) || !decide ((u.kids.headD u).id = u.id))))
theorem zlr {u : T} {most : Int} (h : zpe u most = true) : z0z u = true := by
 unfold zpe z71 zxb at h
 simp only [Bool.and_eq_true, decide_eq_true_eq, Bool.or_eq_true, Bool.not_eq_true', decide_eq_false_iff_not] at h
 obtain ⟨_, h0, ⟨h1, h2, h3, h4⟩, h5⟩ := h
 rw [z1f]
 refine ⟨h1, h2, h3, ?_⟩
 rcases h4 with h4 | ⟨h4, h6⟩
 ·have ha : ∀ i ∈ z0c u, i = Idv.zero := fun i hi => by simpa using List.all_eq_true.1 h4 i hi
  have hz : u.id = Idv.zero := ha _ (z16 u)
  have hk : u.kids = [] := by
   cases hk : u.kids with
   | nil => rfl
   | cons k l =>
    exfalso
    rw [hk] at h5
    rcases h5 with h5 | h5
    ·simp at h5
    ·refine h5 ?_
     rw [hz]
     show k.id = _
     refine ha _ ?_
     rw [z1g, hk]
     exact List.mem_cons_of_mem _ (List.mem_flatMap.2 ⟨k, by simp, z16 k⟩)
  rw [z1g, hk]
  exact ⟨by simp, ⟨fun _ => h0, fun _ => hz⟩, by simp⟩
 ·refine ⟨h6, h4, fun hm => ?_⟩
  have hz := h4.2 h0
  rw [z1g, List.nodup_cons] at h6
  exact h6.1 (hz ▸ hm)
noncomputable def doR (u : T) (d : EIt) : T × Int :=
 if (decide (0 <= d.it.kind /\ d.it.kind <= 6) && zc8 d.it) = false then (u, 1) else
 if ¬ (z24 u d.it.at_).2 = 0 then (u, (z24 u d.it.at_).2) else
 if d.it.kind = 0 then (zcu u (z24 u d.it.at_).1 d.it.wh (z6f d.act d.item d.it.unit), z6q u (z24 u d.it.at_).1 d.it.wh (z6f d.act d.item d.it.unit)) else
 if ¬ (z24 u d.it.to).2 = 0 then (u, (z24 u d.it.to).2) else (z2d u (z24 u d.it.at_).1 (z24 u d.it.to).1 d.it.wh, z2c u (z24 u d.it.at_).1 (z24 u d.it.to).1 d.it.wh)
theorem ztt {x : It} (h : zc8 x = true) (hk : x.kind = 0 \/ x.kind = 6) : 0 <= x.wh /\ x.wh <= 3 := by
 rw [zm3] at h
 unfold mayF z4p at h
 simp only [Bool.and_eq_true] at h
 obtain ⟨_, _, h⟩ := h
 rcases hk with hk | hk
 ·rw [if_pos hk] at h
  simp only [Bool.and_eq_true, inB, decide_eq_true_eq] at h
  exact h.1
 ·rw [if_neg (by omega), if_neg (by omega), if_neg (by omega), if_neg (by omega), if_neg (by omega), if_pos hk] at h
  simp only [Bool.and_eq_true, inB, decide_eq_true_eq] at h
  exact h.1
theorem whB_of {w : Int} (h : 0 <= w /\ w <= 3) : whB w = true := decide_eq_true h
theorem at_par {u : T} {id par : Idv} {n : Nat} (hn : (z0c u).Nodup) (h0 : ¬ u.id = id) (hm : id ∈ z0c u) (hp : z2u id u = (par, (n : Int), true)) :
  par ∈ z0c u /\ n < (z07 par u).1.kids.length /\ ∀ h : n < (z07 par u).1.kids.length, (z07 par u).1.kids[n].id = id := by
 obtain ⟨q, l, x, r, e1, e2, e3, e4, e5, n1, n2, e6, _⟩ := zd1 hn h0 hm
 rw [hp] at e1
 simp only [Prod.mk.injEq, and_true] at e1
 obtain ⟨g1, g2⟩ := e1
 have g2 : n = l.length := by omega
 subst g1 g2
 rw [e4]
 refine ⟨e6, ?_, fun h => ?_⟩
 ·show _ < (l ++ x :: r).length
  simp
 ·have key : ∀ (m : List T) (e : m = l ++ x :: r) (h : l.length < m.length), m[l.length].id = id := fun m e h => by
   subst e
   rw [List.getElem_append_right (Nat.le_refl _)]
   simpa using e3
  exact key _ rfl h
theorem zfb : ∀ t : T, ∀ P ∈ z09 t, ∀ y ∈ P.kids, y.id ∈ t.kids.flatMap z0c := by
 refine z3u fun t ih P hP y hy => ?_
 rw [z1x, List.mem_cons] at hP
 rcases hP with rfl | hP
 ·exact List.mem_flatMap.2 ⟨y, hy, z16 y⟩
 ·obtain ⟨k, hk, hP⟩ := List.mem_flatMap.1 hP
  have := ih k hk P hP y hy
  exact List.mem_flatMap.2 ⟨k, hk, by rw [z1g]; exact List.mem_cons_of_mem _ this⟩
theorem znd {t P y : T} (hn : (z0c t).Nodup) (hP : P ∈ z09 t) (hy : y ∈ P.kids) : ¬ t.id = y.id := fun e => by
 rw [z1g, List.nodup_cons] at hn
 exact hn.1 (e ▸ zfb t P hP y hy)
theorem ztu {u : T} {id to : Idv} {wh : Int} (hs : z0z u = true) (hm : id ∈ z0c u) (ht : to ∈ z0c u) (h : z2c u id to wh = 0) : ∃ (under : Idv) (n : Nat), z2u id u = (under, (n : Int), true) /\ z0z (z2d u id to wh) = true /\ id ∈ z0c (z2d u id to wh) /\ ¬ (z2d u id to wh).id = id /\
  zfq (z2d u id to wh) id under n = 0 /\ z2k under (z5l n (z07 id (z2d u id to wh)).1) (z0h id (z2d u id to wh)) = u /\ cntT (z2d u id to wh) = cntT u := by
 obtain ⟨a1, a2, a3⟩ := z8t hs hm ht h
 unfold z2d
 by_cases he : to = id
 ·rw [if_neg (fun g => g.2 he)]
  obtain ⟨under, n, x, d1, d2, d3, d4, d5, d6, d7, d8, d9, d10, d11, d12⟩ := z59 hs a1 hm
  refine ⟨under, n, d1, hs, hm, a1, zf7 hs d2 (zhh id u under d10) a1 (fun hc => d9 under hc d10) d7, ?_, rfl⟩
  rw [d2]; exact d8
 ·rw [if_pos ⟨h, he⟩]
  obtain ⟨c1, c2, c3⟩ := a3 he
  obtain ⟨under, n, m1, m2, m3, m4, m5, m6⟩ := zpp c3
  obtain ⟨_, y1, _, y3, _⟩ := zf6 m3
  exact ⟨under, n, m1, m5, y1, y3, m3, m4, m6⟩
theorem zgt {u v : T} {id under to : Idv} {wh : Int} {n : Nat} (hs : z0z v = true) (h : zfq v id under n = 0) (hu : z2k under (z5l n (z07 id v).1) (z0h id v) = u)
  (hw : if n + 1 < (z07 under u).1.kids.length then wh = 3 /\ ∃ g : n + 1 < (z07 under u).1.kids.length, to = ((z07 under u).1.kids[n + 1]).id else wh = 1 /\ to = under) :
  to ∈ z0c v /\ z2c v id to wh = 0 /\ z2d v id to wh = u /\ zev v id to wh = ((under, (n : Int)), 0) := by
 obtain ⟨_, y1, y2, y3, y4, y5⟩ := zf6 h
 have hn := z4y hs
 obtain ⟨un, m, x, d1, d2, d3, d4, d5, d6, d7, d8, d9, d10, d11, d12⟩ := z59 hs y3 y1
 have hyo : ∀ y, z07 id v = (y, true) -> under ∉ z0c y := fun y hy => by have := y4; rw [hy] at this; exact this
 have hfw := z8m v hn y3 y2 hyo
 have hun : under ∈ z0c (z0h id v) := (d12 under y2).resolve_left (fun g => y4 (by rw [d2]; exact g))
 have hnw := z4y d4
 have hle : n <= (z07 under (z0h id v)).1.kids.length := by
  obtain ⟨C, q, l, r, e1, e2, e3, e4, _⟩ := zec y5
  have hq : under ∈ z0c (q.setKids (l ++ r)) := by rw [<- e3]; exact z16 (q.setKids (l ++ r))
  have hpre : under ∉ z70 C := (z2m (by rw [<- e1]; exact hnw) hq).1
  have : z07 under (z0h id v) = (q.setKids (l ++ r), true) := by rw [e1, z5b hq C hpre]; exact z1o e3
  rw [this]
  show n <= (l ++ r).length
  rw [List.length_append, e2]; omega
 obtain ⟨i1, i2, i3⟩ := ins_at (x := (z07 id v).1) hnw hun hle
 rw [hu] at i1
 rw [i1] at hw
 rw [hfw] at hw hle
 simp only at hw hle
 have hkn : (z5l n (z07 id v).1 (z0h id (z07 under v).1)).kids = (z0h id (z07 under v).1).kids.take n ++ (z07 id v).1 :: (z0h id (z07 under v).1).kids.drop n := rfl
 have hklen : (z5l n (z07 id v).1 (z0h id (z07 under v).1)).kids.length = (z0h id (z07 under v).1).kids.length + 1 := by
  rw [hkn]; simp only [List.length_append, List.length_cons, List.length_take, List.length_drop]; omega
 have key : to ∈ z0c v /\ ¬ to = id /\ (zaa wh = true -> ¬ v.id = to) /\ to ∉ z0c (z07 id v).1 /\ z3c v to wh = under /\ zi1 v id to wh = n /\ (0 <= wh /\ wh <= 3) := by
  split at hw
  ·rename_i hlt
   obtain ⟨rfl, _, rfl⟩ := hw
   rw [hklen] at hlt
   have hlt : n < (z0h id (z07 under v).1).kids.length := by omega
   have hget : ∀ g, ((z5l n (z07 id v).1 (z0h id (z07 under v).1)).kids[n + 1]'g) = (z0h id (z07 under v).1).kids[n] := fun g => by
    simp only [hkn]
    rw [List.getElem_append_right (by rw [List.length_take]; omega)]
    simp only [List.length_take, Nat.min_eq_left hle, List.getElem_cons, List.getElem_drop]
    rw [dif_neg (by omega)]
    congr 1; omega
   rw [hget]
   have hfm : z0h id (z07 under v).1 ∈ z09 (z0h id v) := by
    have := z51 (id := under) (u := z0h id v) (za1 hun)
    rw [hfw] at this; exact this
   have hmem : (z0h id (z07 under v).1).kids[n] ∈ (z0h id (z07 under v).1).kids := List.getElem_mem hlt
   have hroot := znd hnw hfm hmem
   have hpw := zc3 _ hnw _ hfm _ hmem
   have hin : ((z0h id (z07 under v).1).kids[n]).id ∈ z0c (z0h id v) := by
    rw [z1g]
    exact List.mem_cons_of_mem _ (zfb _ _ hfm _ hmem)
   obtain ⟨y, hy1, hy2, hy3⟩ : ∃ y ∈ (z07 under v).1.kids, ¬ y.id = id /\ z0h id y = (z0h id (z07 under v).1).kids[n] := by
    have hk : (z0h id (z07 under v).1).kids = ((z07 under v).1.kids.filter (z6z id)).map (z0h id) := by rw [z3r]; rfl
    have hm2 := hmem
    obtain ⟨e, he⟩ : ∃ e, e = (z0h id (z07 under v).1).kids[n] := ⟨_, rfl⟩
    rw [<- he] at hm2 ⊢
    rw [hk] at hm2
    obtain ⟨y, g1, g2⟩ := List.mem_map.1 hm2
    obtain ⟨g3, g4⟩ := List.mem_filter.1 g1
    exact ⟨y, g3, of_decide_eq_true g4, g2⟩
   have hyid : y.id = ((z0h id (z07 under v).1).kids[n]).id := by rw [<- hy3, (z4u id y).1]
   have hvm : (z07 under v).1 ∈ z09 v := z51 (za1 y2)
   have hpv := zc3 _ hn _ hvm _ hy1
   have hfid : (z07 under v).1.id = under := by
    obtain ⟨_, _, h2, _⟩ := focus under v y2
    exact h2
   rw [hfid, hyid] at hpv
   rw [(z4u id _).1, hfid] at hpw
   obtain ⟨q, l, z, r, e1, e2, e3, e4, e5, n1, n2, e6, _⟩ := zd1 hnw hroot hin
   rw [e1] at hpw
   simp only at hpw
   rw [hpw, hfw] at e4
   have J : (z0h id (z07 under v).1).kids = l ++ z :: r := by rw [(Prod.mk.inj e4).1]; rfl
   have hnl : n = l.length := by
    have hg : ∀ g, ((l ++ z :: r)[n]'g).id = ((z0h id (z07 under v).1).kids[n]).id := fun g => by simp only [J]
    rcases Nat.lt_trichotomy n l.length with g | g | g
    ·have := hg (by rw [List.length_append]; omega)
     rw [List.getElem_append_left g] at this
     exact ((z9w (z5j n1 _ (List.getElem_mem g))) this).elim
    ·exact g
    ·have hlen : n < (l ++ z :: r).length := by rw [<- J]; exact hlt
     have := hg hlen
     simp only [List.length_append, List.length_cons] at hlen
     rw [List.getElem_append_right (by omega), List.getElem_cons, dif_neg (by omega)] at this
     exact ((z9w (z5j n2 _ (List.getElem_mem _))) this).elim
   have hpm : z3c v ((z0h id (z07 under v).1).kids[n]).id 3 = under := by unfold z3c; rw [if_pos (by decide)]; exact hpv
   refine ⟨by rw [<- hyid, z1g]; exact List.mem_cons_of_mem _ (zfb _ _ hvm _ hy1), by rw [<- hyid]; exact hy2, fun _ => by rw [<- hyid]; exact znd hn hvm hy1, fun hc => d9 _ (by rw [d2] at hc; exact hc) hin, hpm, ?_, by decide⟩
   unfold zi1
   rw [if_pos (by decide), hpm, if_neg (by decide), Nat.add_zero]
   generalize hto : ((z0h id (z07 under v).1).kids[n]).id = to at *
   rw [J, hnl]
   exact zey (fun k hk => decide_eq_false (z9w (z5j n1 k hk))) (decide_eq_true e3)
  ·rename_i hlt
   obtain ⟨rfl, rfl⟩ := hw
   rw [hklen] at hlt
   have hpm : z3c v to 1 = to := by unfold z3c; rw [if_neg (by decide)]
   refine ⟨y2, (fun e => y4 ?_), (fun g => by cases g), y4, hpm, ?_, by decide⟩
   ·subst e; rw [d2]; exact d3 ▸ z16 x
   ·unfold zi1
    rw [if_neg (by decide), if_neg (by decide), hpm]; omega
 obtain ⟨k1, k2, k3, k4, k5, k6, k7⟩ := key
 have hz : z2c v id to wh = 0 := zlk y1 k2 k3 k4 (by rw [k5, k6]; exact h)
 refine ⟨k1, hz, ?_, ?_⟩
 ·unfold z2d
  rw [if_pos ⟨hz, k2⟩, k5, k6]; exact hu
 ·rw [zzj hs y1 k1 k7 hz, if_neg k2, k5, k6]
theorem zk8 : ∀ t : T, z2x t = true -> ∀ x ∈ z09 t, z2x x = true := by
 refine z3u fun t ih h x hx => ?_
 rw [z1x, List.mem_cons] at hx
 rcases hx with rfl | hx
 ·exact h
 ·obtain ⟨k, hk, hx⟩ := List.mem_flatMap.1 hx
  rw [z53] at h
  simp only [Bool.and_eq_true] at h
  exact ih k hk (List.all_eq_true.1 h.2.2.1 k hk) x hx
theorem zwr {par : Idv} {f : T -> T} {m : Nat} (hf : ∀ q, depT (f q) <= depT q + m) : ∀ u : T, depT (z2k par f u) <= depT u + m := by
 refine z3u fun u ih => ?_
 rw [z9g]
 split
 ·exact hf u
 ·rw [z42, z42 u]
  show z9n ((u.kids.map (z2k par f)).map depT) <= _
  generalize u.kids = l at ih
  induction l with
  | nil => exact Nat.zero_le _
  | cons k l ih2 =>
   simp only [List.map_cons, z75]
   have h1 := ih k (by simp)
   have h2 := ih2 fun k hk => ih k (List.mem_cons_of_mem _ hk)
   omega
theorem zws (n : Nat) (x q : T) : depT (z5l n x q) <= depT q + (1 + depT x) := by
 rw [z42, z42 q]
 show z9n ((q.kids.take n ++ x :: q.kids.drop n).map depT) <= _
 have e : z9n (q.kids.map depT) = max (z9n ((q.kids.take n).map depT)) (z9n ((q.kids.drop n).map depT)) := by
  rw [<- z4w, <- List.map_append, List.take_append_drop]
 rw [e, List.map_append, List.map_cons, z4w, z75]
 omega
theorem zgu {u x : T} {par : Idv} {n : Nat} (hn : (z0c u).Nodup) (hm : par ∈ z0c u) (hu : szB u = true) (hx : szB x = true) (hl : (z07 par u).1.kids.length < 1000000) :
  szB (z2k par (z5l n x) u) = true /\ depT (z2k par (z5l n x) u) <= depT u + (1 + depT x) := by
 refine ⟨?_, zwr (zws n x) u⟩
 rw [<- z9k (f := z5l n x) hn (Prod.ext rfl (za1 hm))]
 exact zzn (fun _ _ _ => zzm (zbk par u hu) hx hl) u hu
theorem ztv {u : T} {d : EIt} (hs : z0z u = true) (hz : szB u = true) (hm : zc8 d.it = true) (hk : d.it.kind = 0 \/ d.it.kind = 6) (hd : (doR u d).2 = 0) (z1 : szB d.it.unit = true) (z3 : depT d.it.unit <= 1000) : szB (doR u d).1 = true /\ depT (doR u d).1 <= 3000 := by
 have hw := ztt hm hk
 obtain ⟨_, s2, _, hn, _⟩ := (z1f u).1 hs
 have hk2 : decide (0 <= d.it.kind /\ d.it.kind <= 6) = true := decide_eq_true (by omega)
 unfold doR at hd ⊢
 rw [hk2, hm] at hd ⊢
 rw [Bool.true_and, if_neg (by simp)] at hd ⊢
 by_cases h1 : (z24 u d.it.at_).2 = 0
 case neg => rw [if_pos h1] at hd; exact (h1 hd).elim
 rw [if_neg (by simpa using h1)] at hd ⊢
 have hin : (z24 u d.it.at_).1 ∈ z0c u := zgz (e := (z24 u d.it.at_).2) rfl h1
 rcases hk with hk | hk
 ·rw [if_pos hk] at hd ⊢
  simp only at hd ⊢
  obtain ⟨_, l2, _⟩ := znj hn hin hw hd
  have hl : (z07 (z3c u (z24 u d.it.at_).1 d.it.wh) u).1.kids.length < 1000000 := by
   unfold z6q at hd
   split at hd
   ·cases hd
   split at hd
   ·cases hd
   split at hd
   ·cases hd
   split at hd
   ·cases hd
   rename_i h
   omega
  unfold zcu
  rw [if_pos hd]
  obtain ⟨g1, g2⟩ := zgu (n := zct u (z24 u d.it.at_).1 d.it.wh) (x := z6f d.act d.item d.it.unit) hn l2 hz (zm8 _ _ _ z1 1 0) hl
  refine ⟨g1, ?_⟩
  have : depT (z6f d.act d.item d.it.unit) = depT d.it.unit := zid _ _ _ 1 0
  omega
 ·rw [if_neg (c := d.it.kind = 0) (by omega)] at hd ⊢
  by_cases h2 : (z24 u d.it.to).2 = 0
  case neg => rw [if_pos h2] at hd; exact (h2 hd).elim
  rw [if_neg (by simpa using h2)] at hd ⊢
  have hto : (z24 u d.it.to).1 ∈ z0c u := zgz (e := (z24 u d.it.to).2) rfl h2
  simp only at hd ⊢
  generalize (z24 u d.it.at_).1 = id at *
  generalize (z24 u d.it.to).1 = to at *
  obtain ⟨under, n, e1, e2, e3, e4, e5, e6, e7⟩ := ztu hs hin hto hd
  refine ⟨?_, by have := ((z1f _).1 e2).2.1; omega⟩
  obtain ⟨a1, a2, a3⟩ := z8t hs hin hto hd
  unfold z2d
  by_cases he : to = id
  ·rw [if_neg fun g => g.2 he]; exact hz
  ·rw [if_pos ⟨hd, he⟩]
   obtain ⟨c1, c2, c3⟩ := a3 he
   obtain ⟨under', n', x, d1, d2, d3, d4, d5, d6, d7, d8, d9, d10, d11, d12⟩ := z59 hs a1 hin
   have hpw : z3c u to d.it.wh ∈ z0c (z0h id u) := (d12 _ c1).resolve_left (fun g => c2 (by rw [d2]; exact g))
   refine (zgu (z4y d4) hpw (zll u hz) (zbk id u hz) ?_).1
   have hst := ((z1f _).1 d4).1
   have hnode := z51 (za1 hpw)
   have := (zex (zk8 _ hst _ hnode)).2
   omega
end Tr
end
section
open Abs Facts Tr
attribute [local irreducible] awp
set_option maxRecDepth 100000
theorem zr3 (k : Int) : PC Tryz.prog 33 [.int .i64 k] (.bool (decide (0 <= k /\ k <= 6))) := by
 refine z1y 1 rfl rfl (z1w [] Tryz.func33 rfl (by decide +kernel) z0j (by decide +kernel) (by simp [Tryz.ntmps33]) ?_)
 show awp _ _ (Code.seq _ _) _ _
 repeat' (first | ((refine zqh fun K J => ?_); (simp (disch := omega) only [go_sem, Nat.reduceBEq, ↓reduceIte])) | refine zqn ?_ | refine zqu (by (simp (disch := omega) only [go_sem]); rfl) rfl ?_ | (refine J _ ?_; clear J K) | (refine zqf (fun hb => ?_) (fun hb => ?_) <;> (have hb2 := hb; try simp only [z03] at hb2) <;> ((first | have F := eq_false hb2 | have F := eq_true hb2); (simp (disch := omega) only [go_sem, Nat.reduceBEq, ↓reduceIte, F]); clear hb F; (try (exfalso; omega)))))
 all_goals first | exact z00 (decide_eq_true (by omega)).symm | exact z00 (decide_eq_false (by omega)).symm | exact z00 (decide_eq_decide.2 (by omega))
theorem zv1 (u : T) (hs : szB u = true) (hc : cntT u <= 1100) (x : It) (hx : OkI x) : PC Tryz.prog 12 [z17 u, zc5 x] (.tup [z3h (z24 u x.at_).1, .int .i64 (z24 u x.at_).2]) := by
 obtain ⟨b, _⟩ := (z87 x).1 hx
 have m1 : 1000 <= maxLen := by unfold maxLen; omega
 have c1 := z7e u hs hc x.at_ (by have := b.at_.1; omega) fun s hs => by have := b.at_.2 s hs; omega
 refine z1y 3 (by simp only [pureD.pureL, z05, z48, Bool.and_self]) rfl (z1w [] Tryz.func12 rfl (by decide +kernel) z0j (by decide +kernel) (by simp [Tryz.ntmps12]) ?_)
 show awp _ _ (Code.seq _ _) _ _
 rw [show Tryz.f12.results.toList = [.cell 4 23, .tmp 5] from rfl]
 repeat' (first | ((first | refine zqh fun K J => ?_ | refine zqs (c1) ?_); (simp (disch := omega) only [go_sem, Nat.reduceBEq, ↓reduceIte, reduceCtorEq, Nat.reduceAdd, Nat.reduceLeDiff, z0a])) | refine zqn ?_ | refine zqu (by (simp (disch := omega) only [go_sem, Nat.reduceBEq, ↓reduceIte, Nat.reduceAdd, Nat.reduceLeDiff]); rfl) rfl ?_ | (refine J _ ?_; clear J K))
 exact z02 rfl (Le.refl _)
set_option maxHeartbeats 16000000 in
theorem zr4 (u : T) (hst : z0z u = true) (hz : szB u = true) (hc : cntT u <= 1100) (d : EIt) (hx : OkI d.it) (hk : d.it.kind = 0 \/ d.it.kind = 6) : PC Tryz.prog 9 [z17 u, zm1 d] (.tup [z17 (doR u d).1, .int .i64 (doR u d).2]) := by
 obtain ⟨b, _⟩ := (z87 d.it).1 hx
 have m1 : 1000 <= maxLen := by unfold maxLen; omega
 have c1 := zr3 d.it.kind
 have c2 := zmh d.it hx
 have c3 := zqw u hz hc d.it.at_ (by have := b.at_.1; omega) fun s hs => by have := b.at_.2 s hs; omega
 have hkd : decide (0 <= d.it.kind /\ d.it.kind <= 6) = true := decide_eq_true (by omega)
 rw [hkd] at c1
 refine z1y 3 (by simp only [pureD.pureL, z05, zbd, Bool.and_self]) (by simp only [pureD, pureD.pureL, z05, Bool.and_self]) (z1w [] Tryz.func9 rfl (by decide +kernel) z0j (by decide +kernel) (by simp [Tryz.ntmps9]) ?_)
 show awp _ _ (Code.seq _ _) _ _
 rw [show Tryz.f9.results.toList = [.cell 4 27, .tmp 5] from rfl]
 obtain ⟨R, hR⟩ : ∃ R, R = doR u d := ⟨_, rfl⟩
 rw [<- hR]
 unfold doR at hR
 rw [hkd, Bool.true_and] at hR
 by_cases hm : zc8 d.it = true
 case neg =>
  rw [Bool.not_eq_true] at hm
  rw [if_pos hm] at hR
  rw [hm] at c2
  rw [hR]
  repeat' (first | refine zqj ?_ | ((first | refine z01 (N := 3) rfl fun K J => ?_ | refine zqs (c1) ?_ | refine zqs (c2) ?_); (simp (disch := omega) only [go_sem, Nat.reduceBEq, ↓reduceIte, reduceCtorEq, Nat.reduceAdd, Nat.reduceLeDiff])) | ((refine zqd _ rfl (fun hc => ?_) (fun hc => ?_)) <;> (first | (cases hc; done) | ((try simp only [] at hc); (try (exfalso; omega))))) | refine zqg ?_ | refine zqu (by (simp (disch := omega) only [go_sem, Nat.reduceBEq, ↓reduceIte, Nat.reduceLeDiff]); rfl) rfl ?_ | (refine J _ ?_; clear J K))
  exact z02 (by simp only [pureD, pureD.pureL, z0d, Bool.and_self]) (Le.refl _)
 rw [if_neg (by rw [hm]; decide)] at hR
 rw [hm] at c2
 by_cases h1 : (z24 u d.it.at_).2 = 0
 case neg =>
  rw [if_pos h1] at hR
  have hod : decide ((z24 u d.it.at_).2 = 0) = false := decide_eq_false h1
  rw [hR]
  repeat' (first | refine zqj ?_ | ((first | refine z01 (N := 6) rfl fun K J => ?_ | refine zqs (c1) ?_ | refine zqs (c2) ?_ | refine zqs (c3) ?_); (simp (disch := omega) only [go_sem, Nat.reduceBEq, ↓reduceIte, reduceCtorEq, Nat.reduceAdd, Nat.reduceLeDiff, z0a])) | ((refine zqd _ rfl (fun hc => ?_) (fun hc => ?_)) <;> (first | (cases hc; done) | ((try simp only [z03] at hc); (try (exfalso; omega))))) | refine zqb ?_ | refine zqg ?_ | refine zqu (by (simp (disch := omega) only [go_sem, Nat.reduceBEq, ↓reduceIte, Nat.reduceLeDiff]); rfl) rfl ?_ | (refine J _ ?_; clear J K))
  exact z02 (by simp only [pureD, pureD.pureL, z0d, Bool.and_self]) (Le.refl _)
 rw [if_neg (by simpa using h1)] at hR
 have hin : (z24 u d.it.at_).1 ∈ z0c u := zgz (e := (z24 u d.it.at_).2) rfl h1
 have hw := ztt hm hk
 rw [h1] at c3
 rcases hk with hk | hk
 ·rw [if_pos hk] at hR
  have c4 := zkp u hst hz hc (z24 u d.it.at_).1 hin d hw b.unit.1 b.unit.2.1 (by have := b.unit.2.2; omega)
  rw [<- (Prod.mk.inj hR).1, <- (Prod.mk.inj hR).2] at c4
  have hk0 : decide (d.it.kind = 0) = true := decide_eq_true hk
  repeat' (first | refine zqj ?_ | ((first | refine zqh fun K J => ?_ | refine zqs (c1) ?_ | refine zqs (c2) ?_ | refine zqs (c3) ?_ | refine zqs (c4) ?_); (simp (disch := omega) only [go_sem, Nat.reduceBEq, ↓reduceIte, reduceCtorEq, Nat.reduceAdd, Nat.reduceLeDiff, z0a, hk0])) | ((refine zqd _ rfl (fun hc => ?_) (fun hc => ?_)) <;> (first | (cases hc; done) | ((try simp only [] at hc); (try (exfalso; omega))))) | refine zqb ?_ | refine zqg ?_ | refine zqu (by (simp (disch := omega) only [go_sem, Nat.reduceBEq, ↓reduceIte, Nat.reduceLeDiff]); rfl) rfl ?_ | (refine J _ ?_; clear J K))
  exact z02 (by simp only [pureD, pureD.pureL, z0d, Bool.and_self]) (Le.refl _)
 ·rw [if_neg (by omega)] at hR
  have c4 := zq4 u hst hz hc (z24 u d.it.at_).1 hin d hw (by have := b.to.1; omega) fun s hs => by have := b.to.2 s hs; omega
  have hR2 : R = (if (z24 u d.it.to).2 = 0 then z2d u (z24 u d.it.at_).1 (z24 u d.it.to).1 d.it.wh else u, if (z24 u d.it.to).2 = 0 then z2c u (z24 u d.it.at_).1 (z24 u d.it.to).1 d.it.wh else (z24 u d.it.to).2) := by
   rw [hR]
   by_cases h2 : (z24 u d.it.to).2 = 0
   ·rw [if_neg (by simpa using h2), if_pos h2, if_pos h2]
   ·rw [if_pos h2, if_neg h2, if_neg h2]
  rw [<- (Prod.mk.inj hR2).1, <- (Prod.mk.inj hR2).2] at c4
  have hk0 : decide (d.it.kind = 0) = false := decide_eq_false (by omega)
  have hk6 : decide (d.it.kind = 6) = true := decide_eq_true hk
  repeat' (first | refine zqj ?_ | ((first | refine zqh fun K J => ?_ | refine zqs (c1) ?_ | refine zqs (c2) ?_ | refine zqs (c3) ?_ | refine zqs (c4) ?_); (simp (disch := omega) only [go_sem, Nat.reduceBEq, ↓reduceIte, reduceCtorEq, Nat.reduceAdd, Nat.reduceLeDiff, z0a, hk0, hk6])) | ((refine zqd _ rfl (fun hc => ?_) (fun hc => ?_)) <;> (first | (cases hc; done) | ((try simp only [] at hc); (try (exfalso; omega))))) | refine zqb ?_ | refine zqg ?_ | refine zqu (by (simp (disch := omega) only [go_sem, Nat.reduceBEq, ↓reduceIte, Nat.reduceLeDiff]); rfl) rfl ?_ | (refine J _ ?_; clear J K))
  exact z02 (by simp only [pureD, pureD.pureL, z0d, Bool.and_self]) (Le.refl _)
theorem znu (u : T) (hf : fitB u = true) (most : Int) (h0 : 0 <= most) (h1 : most <= 1000) : PC Tryz.prog 5 [z17 u, .int .i64 most] (.bool (zpe u most)) := by
 have c1 := zxf u hf most h0 h1
 refine z1y 1 (by simp only [pureD.pureL, z05, pureD, Bool.and_self]) rfl (z1w [] Tryz.func5 rfl (by decide +kernel) z0j (by decide +kernel) (by simp [Tryz.ntmps5]) ?_)
 show awp _ _ (Code.seq _ _) _ _
 unfold zpe
 by_cases hfw : zvi u most = true
 case neg =>
  rw [Bool.not_eq_true] at hfw
  rw [hfw] at c1 ⊢
  repeat' (first | ((first | refine zqh fun K J => ?_ | refine zqe (by decide +kernel) fun K J => ?_ | refine zqt (c1) ?_); (simp (disch := omega) only [go_sem, Nat.reduceBEq, ↓reduceIte, Nat.reduceAdd, Nat.reduceLeDiff])) | refine zqn ?_ | refine zqu (by (simp (disch := omega) only [go_sem]); rfl) rfl ?_ | (refine J _ ?_; clear J K))
  exact z00 rfl
 obtain ⟨z1, z2, z3⟩ := zql h0 h1 hfw
 have c2 := zxd u z1 (by omega) (by omega)
 rw [hfw] at c1 ⊢
 rw [Bool.true_and]
 have hl := ((z1l u).1 z1).2.2.2.2.2.1
 have hz : Int.toNat 0 = 0 := rfl
 cases hkn : u.kids with
 | nil =>
  repeat' (first | ((first | refine zqh fun K J => ?_ | refine zqe (by decide +kernel) fun K J => ?_ | refine zqt (c1) ?_ | refine zqt (c2) ?_); (simp (disch := omega) only [go_sem, Nat.reduceBEq, ↓reduceIte, reduceCtorEq, Nat.reduceAdd, Nat.reduceLeDiff, List.map_nil])) | refine zqn ?_ | refine zqu (by (simp (disch := omega) only [go_sem, Nat.reduceBEq, ↓reduceIte]); rfl) rfl ?_ | (refine J _ ?_; clear J K) | (refine zqf (fun hb => ?_) (fun hb => ?_) <;> (have hb2 := hb; try simp only [z03] at hb2) <;> ((first | have F : (_ : Bool) = _ := hb2 | have F := eq_false hb2 | have F := eq_true hb2); (simp (disch := omega) only [go_sem, Nat.reduceBEq, ↓reduceIte, reduceCtorEq, Nat.reduceAdd, Nat.reduceLeDiff, hb, F, z0e, hkn, List.length_nil, List.map_nil]); clear hb F; (try (exfalso; omega)))))
  all_goals first
   | exact z00 rfl
   | (refine z00 ?_; simp [*]; done)
 | cons k l =>
  repeat' (first | ((first | refine zqh fun K J => ?_ | refine zqe (by decide +kernel) fun K J => ?_ | refine zqt (c1) ?_ | refine zqt (c2) ?_); (simp (disch := omega) only [go_sem, Nat.reduceBEq, ↓reduceIte, reduceCtorEq, Nat.reduceAdd, Nat.reduceLeDiff, List.map_cons])) | refine zqn ?_ | refine zqu (by (simp (disch := omega) only [go_sem]); rfl) rfl ?_ | (refine J _ ?_; clear J K) | (refine zqf (fun hb => ?_) (fun hb => ?_) <;> (have hb2 := hb; try simp only [z03] at hb2) <;> ((first | have F : (_ : Bool) = _ := hb2 | have F := eq_false hb2 | have F := eq_true hb2); (simp (disch := omega) only [go_sem, Nat.reduceBEq, ↓reduceIte, reduceCtorEq, Nat.reduceAdd, Nat.reduceLeDiff, hb, F, z0e, hkn, zfp, List.length_cons, List.map_cons]); clear hb F; (try (exfalso; omega)))))
  all_goals first
   | exact z00 rfl
   | (refine z00 ?_; simp [*]; done)
end
section
open Abs Facts Tr
attribute [local irreducible] awp
set_option maxRecDepth 100000
set_option maxHeartbeats 16000000 in
theorem zvf : ∀ x : It, RdI x -> PC Tryz.prog 6 [zc5 x] (.bool (zps x)) := by
  refine zlt fun x ih hx => ?_
  obtain ⟨⟨⟨a1, _⟩, ⟨a2, _⟩, ⟨a3, _⟩, ⟨a4, _⟩, a5, a6, a7, a8, a9, a10⟩, hk⟩ := (zh4 x).1 hx
  have c1 := zxf x.unit a6 30 (by decide) (by decide)
  unfold maxLen at a1 a2 a3 a4 a5 a7 a8 a9 a10
  refine z1y 1 (by simp only [pureD.pureL, z48, Bool.and_self]) rfl (z1w [] Tryz.func6 rfl (by decide +kernel) z0j (by decide +kernel) (by simp [Tryz.ntmps6]) ?_)
  show awp _ _ (Code.seq _ _) _ _
  have hno : zym x = false -> zps x = false := fun h => by rw [zkn, h, Bool.false_and]
  repeat' (first | refine zqj ?_ | ((first | refine z01 (N := 3) rfl fun K J => ?_ | refine zqs (c1) ?_); (simp (disch := omega) only [go_sem, Nat.reduceBEq, ↓reduceIte, reduceCtorEq, Nat.reduceAdd, z0a])) | ((refine zqd _ rfl (fun hc => ?_) (fun hc => ?_)) <;> (first | (cases hc; done) | ((try simp only [z03] at hc); (try (exfalso; omega))))) | refine zqb ?_ | refine zqg ?_ | refine zqu (by (simp (disch := omega) only [go_sem]); rfl) rfl ?_ | (refine J _ ?_; clear J K) | (refine zqf (fun hb => ?_) (fun hb => ?_) <;> (have hb2 := hb; try simp only [z03] at hb2) <;> ((first | have F := eq_false hb2 | have F := eq_true hb2); (simp (disch := omega) only [go_sem, Nat.reduceBEq, ↓reduceIte, reduceCtorEq, Nat.reduceAdd, Nat.reduceLeDiff, F, z0a, z3i, z3l]); clear hb F; (try (exfalso; omega)))))
  all_goals first
    | (refine z00 (hno ?_).symm
       unfold zym
       simp only [Bool.and_eq_false_imp, decide_eq_true_eq]
       intros
       first | omega | assumption)
    | skip
  have hN : zym x = true := by
    unfold zym
    simp only [Bool.and_eq_true, decide_eq_true_eq]
    exact ⟨by omega, by omega, by omega, by omega, by omega, by omega, by omega, by omega, by omega, by assumption⟩
  rw [zkn, hN, Bool.true_and]
  (refine z1c (fun st => st.t 1 = .ptr 0 0 /\ st.H 0 = some (.box 34 (z0i x)) /\ st.nx = 1) ?_ ?_); rotate_left; (rintro st ⟨p1, pH0, pnx⟩); rotate_left
  · (simp (disch := omega) only [go_sem, Nat.reduceBEq, and_self])
  repeat' (first | ((refine zqh fun K J => ?_); (simp (disch := omega) only [go_sem, pnx])) | refine zqa ?_ | (refine J _ ?_; clear J K))
  (refine z37 (fun U st => ∃ (k : _), U = x.old.length - k /\ st.t 1 = .ptr 0 0 /\ st.t 3 = .int .i64 k /\ st.H 0 = some (.box 34 (z0i x)) /\ st.nx = 1 /\ (k <= x.old.length) /\ ((x.old.take k).all (fun s => decide (s.size <= 100)) = true)) ?_ ?_); rotate_left; (rintro U st ⟨k, rfl, q1, q3, qH0, qnx, qp0, qp1⟩); rotate_left
  · (refine ⟨_, 0, rfl, ?_⟩); (simp (disch := omega) only [go_sem, Nat.reduceBEq, p1, pH0, true_and, Int.natCast_zero])
    try simp
  by_cases hk0 : k < x.old.length
  · repeat' (first | refine zqj ?_ | ((first | refine zqh fun K J => ?_ | refine zqr fun K J => ?_); (simp (disch := omega) only [go_sem, Nat.reduceBEq, ↓reduceIte, reduceCtorEq, Nat.reduceAdd, q1, q3, qH0, qnx, z3i])) | ((first | refine zqd _ rfl (fun hc => ?_) (fun hc => ?_) | refine zqm _ rfl (fun hc => ?_) (fun hc => ?_)) <;> (((try simp only [z03] at hc); (try (exfalso; omega))))) | refine zqa ?_ | refine zqb ?_ | refine zqk ?_ | refine zqn ?_ | refine zqv ?_ | refine zqx ?_ | refine zqy ?_ | refine z4a ?_ | refine zqo ?_ | refine zqu (by (simp (disch := omega) only [go_sem]); rfl) rfl ?_ | (refine J _ ?_; clear J K))
    · refine z00 ?_
      rw [show shS x.old = false from z3y (k := k) hk0 (decide_eq_false (by omega)), Bool.false_and]
    · (refine Exists.intro _ (And.intro ?_ ⟨k + 1, rfl, ?_⟩)); rotate_left; (simp (disch := omega) only [go_sem, Nat.reduceBEq, q1, q3, qH0, true_and, Int.natCast_add, Int.natCast_one]); rotate_left
      · omega
      · exact ⟨by omega, z2g hk0 qp1 (decide_eq_true (by omega))⟩
  rw [show shS x.old = true from z2o hk0 qp1, Bool.true_and]
  repeat' (first | refine zqj ?_ | ((refine zqh fun K J => ?_); (simp (disch := omega) only [go_sem, Nat.reduceBEq, ↓reduceIte, reduceCtorEq, Nat.reduceAdd, q1, q3, qH0, qnx, z3i])) | ((refine zqd _ rfl (fun hc => ?_) (fun hc => ?_)) <;> (((try simp only [z03] at hc); (try (exfalso; omega))))) | refine zqa ?_ | refine zqc ?_ | refine zqv ?_ | refine zqz ?_ | refine zqp ?_ | (refine J _ ?_; clear J K))
  (refine z37 (fun U st => ∃ (k : _), U = x.new.length - k /\ st.t 1 = .ptr 0 0 /\ st.t 4 = .int .i64 k /\ st.H 0 = some (.box 34 (z0i x)) /\ st.nx = 1 /\ (k <= x.new.length) /\ ((x.new.take k).all (fun s => decide (s.size <= 100)) = true)) ?_ ?_); rotate_left; (rintro U st ⟨k, rfl, r1, r4, rH0, rnx, rp0, rp1⟩); rotate_left
  · (refine ⟨_, 0, rfl, ?_⟩); (simp (disch := omega) only [go_sem, Nat.reduceBEq, q1, qH0, true_and, Int.natCast_zero])
    try simp
  by_cases hk1 : k < x.new.length
  · repeat' (first | refine zqj ?_ | ((first | refine zqh fun K J => ?_ | refine zqr fun K J => ?_); (simp (disch := omega) only [go_sem, Nat.reduceBEq, ↓reduceIte, reduceCtorEq, Nat.reduceAdd, r1, r4, rH0, rnx, z3i])) | ((first | refine zqd _ rfl (fun hc => ?_) (fun hc => ?_) | refine zqm _ rfl (fun hc => ?_) (fun hc => ?_)) <;> (((try simp only [z03] at hc); (try (exfalso; omega))))) | refine zqa ?_ | refine zqb ?_ | refine zqk ?_ | refine zqn ?_ | refine zqv ?_ | refine zqx ?_ | refine zqy ?_ | refine z4a ?_ | refine zqo ?_ | refine zqu (by (simp (disch := omega) only [go_sem]); rfl) rfl ?_ | (refine J _ ?_; clear J K))
    · refine z00 ?_
      rw [show shS x.new = false from z3y (k := k) hk1 (decide_eq_false (by omega)), Bool.false_and]
    · (refine Exists.intro _ (And.intro ?_ ⟨k + 1, rfl, ?_⟩)); rotate_left; (simp (disch := omega) only [go_sem, Nat.reduceBEq, r1, r4, rH0, true_and, Int.natCast_add, Int.natCast_one]); rotate_left
      · omega
      · exact ⟨by omega, z2g hk1 rp1 (decide_eq_true (by omega))⟩
  rw [show shS x.new = true from z2o hk1 rp1, Bool.true_and]
  repeat' (first | refine zqj ?_ | ((refine zqh fun K J => ?_); (simp (disch := omega) only [go_sem, Nat.reduceBEq, ↓reduceIte, reduceCtorEq, Nat.reduceAdd, r1, r4, rH0, rnx, z3i])) | ((refine zqd _ rfl (fun hc => ?_) (fun hc => ?_)) <;> (((try simp only [z03] at hc); (try (exfalso; omega))))) | refine zqa ?_ | refine zqc ?_ | refine zqv ?_ | refine zqz ?_ | refine zqp ?_ | (refine J _ ?_; clear J K))
  (refine z37 (fun U st => ∃ (k : _), U = x.at_.length - k /\ st.t 1 = .ptr 0 0 /\ st.t 5 = .int .i64 k /\ st.H 0 = some (.box 34 (z0i x)) /\ st.nx = 1 /\ (k <= x.at_.length) /\ ((x.at_.take k).all (fun s => decide (s.label.size <= 100)) = true)) ?_ ?_); rotate_left; (rintro U st ⟨k, rfl, u1, u5, uH0, unx, up0, up1⟩); rotate_left
  · (refine ⟨_, 0, rfl, ?_⟩); (simp (disch := omega) only [go_sem, Nat.reduceBEq, r1, rH0, true_and, Int.natCast_zero])
    try simp
  by_cases hk2 : k < x.at_.length
  · repeat' (first | refine zqj ?_ | ((first | refine zqh fun K J => ?_ | refine zqr fun K J => ?_); (simp (disch := omega) only [go_sem, Nat.reduceBEq, ↓reduceIte, reduceCtorEq, Nat.reduceAdd, u1, u5, uH0, unx, z0a])) | ((first | refine zqd _ rfl (fun hc => ?_) (fun hc => ?_) | refine zqm _ rfl (fun hc => ?_) (fun hc => ?_)) <;> (((try simp only [z03] at hc); (try (exfalso; omega))))) | refine zqa ?_ | refine zqb ?_ | refine zqk ?_ | refine zqn ?_ | refine zqv ?_ | refine zqx ?_ | refine zqy ?_ | refine z4a ?_ | refine zqo ?_ | refine zqu (by (simp (disch := omega) only [go_sem]); rfl) rfl ?_ | (refine J _ ?_; clear J K))
    · refine z00 ?_
      rw [show shP x.at_ = false from z3y (k := k) hk2 (decide_eq_false (by omega)), Bool.false_and]
    · (refine Exists.intro _ (And.intro ?_ ⟨k + 1, rfl, ?_⟩)); rotate_left; (simp (disch := omega) only [go_sem, Nat.reduceBEq, u1, u5, uH0, true_and, Int.natCast_add, Int.natCast_one]); rotate_left
      · omega
      · exact ⟨by omega, z2g hk2 up1 (decide_eq_true (by omega))⟩
  rw [show shP x.at_ = true from z2o hk2 up1, Bool.true_and]
  repeat' (first | refine zqj ?_ | ((refine zqh fun K J => ?_); (simp (disch := omega) only [go_sem, Nat.reduceBEq, ↓reduceIte, reduceCtorEq, Nat.reduceAdd, u1, u5, uH0, unx, z0a])) | ((refine zqd _ rfl (fun hc => ?_) (fun hc => ?_)) <;> (((try simp only [z03] at hc); (try (exfalso; omega))))) | refine zqa ?_ | refine zqc ?_ | refine zqv ?_ | refine zqz ?_ | refine zqp ?_ | (refine J _ ?_; clear J K))
  (refine z37 (fun U st => ∃ (k : _), U = x.to.length - k /\ st.t 1 = .ptr 0 0 /\ st.t 6 = .int .i64 k /\ st.H 0 = some (.box 34 (z0i x)) /\ st.nx = 1 /\ (k <= x.to.length) /\ ((x.to.take k).all (fun s => decide (s.label.size <= 100)) = true)) ?_ ?_); rotate_left; (rintro U st ⟨k, rfl, v1, v6, vH0, vnx, vp0, vp1⟩); rotate_left
  · (refine ⟨_, 0, rfl, ?_⟩); (simp (disch := omega) only [go_sem, Nat.reduceBEq, u1, uH0, true_and, Int.natCast_zero])
    try simp
  by_cases hk3 : k < x.to.length
  · repeat' (first | refine zqj ?_ | ((first | refine zqh fun K J => ?_ | refine zqr fun K J => ?_); (simp (disch := omega) only [go_sem, Nat.reduceBEq, ↓reduceIte, reduceCtorEq, Nat.reduceAdd, v1, v6, vH0, vnx, z0a])) | ((first | refine zqd _ rfl (fun hc => ?_) (fun hc => ?_) | refine zqm _ rfl (fun hc => ?_) (fun hc => ?_)) <;> (((try simp only [z03] at hc); (try (exfalso; omega))))) | refine zqa ?_ | refine zqb ?_ | refine zqk ?_ | refine zqn ?_ | refine zqv ?_ | refine zqx ?_ | refine zqy ?_ | refine z4a ?_ | refine zqo ?_ | refine zqu (by (simp (disch := omega) only [go_sem]); rfl) rfl ?_ | (refine J _ ?_; clear J K))
    · refine z00 ?_
      rw [show shP x.to = false from z3y (k := k) hk3 (decide_eq_false (by omega)), Bool.false_and]
    · (refine Exists.intro _ (And.intro ?_ ⟨k + 1, rfl, ?_⟩)); rotate_left; (simp (disch := omega) only [go_sem, Nat.reduceBEq, v1, v6, vH0, true_and, Int.natCast_add, Int.natCast_one]); rotate_left
      · omega
      · exact ⟨by omega, z2g hk3 vp1 (decide_eq_true (by omega))⟩
  rw [show shP x.to = true from z2o hk3 vp1, Bool.true_and]
  repeat' (first | refine zqj ?_ | ((refine zqh fun K J => ?_); (simp (disch := omega) only [go_sem, Nat.reduceBEq, ↓reduceIte, reduceCtorEq, Nat.reduceAdd, v1, v6, vH0, vnx, z0a])) | ((refine zqd _ rfl (fun hc => ?_) (fun hc => ?_)) <;> (((try simp only [z03] at hc); (try (exfalso; omega))))) | refine zqa ?_ | refine zqc ?_ | refine zqv ?_ | refine zqz ?_ | refine zqp ?_ | (refine J _ ?_; clear J K))
  (refine z37 (fun U st => ∃ (k : _), U = x.by_.length - k /\ st.t 1 = .ptr 0 0 /\ st.t 7 = .int .i64 k /\ st.H 0 = some (.box 34 (z0i x)) /\ st.nx = 1 /\ (k <= x.by_.length) /\ ((x.by_.take k).all (fun y => !zkm y && zps y) = true)) ?_ ?_); rotate_left; (rintro U st ⟨k, rfl, w1, w7, wH0, wnx, wp0, wp1⟩); rotate_left
  · (refine ⟨_, 0, rfl, ?_⟩); (simp (disch := omega) only [go_sem, Nat.reduceBEq, v1, vH0, true_and, Int.natCast_zero])
    try simp
  by_cases hk4 : k < x.by_.length
  · have c2 := ih x.by_[k] (List.getElem_mem hk4) (hk _ (List.getElem_mem hk4))
    obtain ⟨d0, hd0⟩ := (zh4 _).1 (hk _ (List.getElem_mem hk4))
    have d5 := d0.by_
    unfold maxLen at d5
    have hz : Int.toNat 0 = 0 := rfl
    cases hbn : (x.by_[k]).by_ with
    | nil =>
      have hdp : zkm x.by_[k] = false := by unfold zkm; rw [hbn]; rfl
      repeat' (first | refine zqj ?_ | ((first | refine zqh fun K J => ?_ | refine zqr fun K J => ?_ | refine zqs (c2) ?_); (simp (disch := omega) only [go_sem, Nat.reduceBEq, ↓reduceIte, reduceCtorEq, Nat.reduceAdd, w1, w7, wH0, wnx, z3l, hbn, List.length_nil, List.map_nil])) | ((first | refine zqd _ rfl (fun hc => ?_) (fun hc => ?_) | refine zqm _ rfl (fun hc => ?_) (fun hc => ?_)) <;> (((try simp only [z03] at hc); (try (exfalso; omega))))) | refine zqa ?_ | refine zqb ?_ | refine zqk ?_ | refine zqn ?_ | refine zqv ?_ | refine zqx ?_ | refine zqy ?_ | refine z4a ?_ | refine zqo ?_ | refine zqu (by (simp (disch := omega) only [go_sem]); rfl) rfl ?_ | (refine J _ ?_; clear J K) | (refine zqf (fun hb => ?_) (fun hb => ?_) <;> (have hb2 := hb; try simp only [z03] at hb2) <;> ((first | have F := eq_false hb2 | have F := eq_true hb2); (simp (disch := omega) only [go_sem, Nat.reduceBEq, ↓reduceIte, reduceCtorEq, Nat.reduceAdd, F, w1, w7, wH0, z3l, hbn, List.map_nil]); clear hb F; (try (exfalso; omega)))))
      · exact z00 (z3y (k := k) hk4 (by rw [hdp, ‹zps x.by_[k] = false›]; rfl)).symm
      · (refine Exists.intro _ (And.intro ?_ ⟨k + 1, rfl, ?_⟩)); rotate_left; (simp (disch := omega) only [go_sem, Nat.reduceBEq, w1, w7, wH0, true_and, Int.natCast_add, Int.natCast_one, Int.natCast_zero]); rotate_left
        · omega
        · exact ⟨by omega, z2g hk4 wp1 (by rw [hdp, ‹zps x.by_[k] = true›]; rfl)⟩
    | cons z l =>
      have hdp : zkm x.by_[k] = decide (0 < z.by_.length) := by unfold zkm; rw [hbn]; simp
      have hzl : z.by_.length <= 9223372036854775807 := by
        have := (zh4 _).1 (hd0 z (by rw [hbn]; simp))
        exact this.1.by_
      rw [hbn, List.length_cons] at d5
      repeat' (first | refine zqj ?_ | ((first | refine zqh fun K J => ?_ | refine zqr fun K J => ?_ | refine zqs (c2) ?_); (simp (disch := omega) only [go_sem, Nat.reduceBEq, ↓reduceIte, reduceCtorEq, Nat.reduceAdd, w1, w7, wH0, wnx, z3l, hbn, List.length_cons, List.map_cons])) | ((first | refine zqd _ rfl (fun hc => ?_) (fun hc => ?_) | refine zqm _ rfl (fun hc => ?_) (fun hc => ?_)) <;> (first | (cases hc; done) | ((try simp only [z03] at hc); (try (exfalso; omega))))) | refine zqa ?_ | refine zqb ?_ | refine zqk ?_ | refine zqn ?_ | refine zqv ?_ | refine zqx ?_ | refine zqy ?_ | refine z4a ?_ | refine zqo ?_ | refine zqu (by (simp (disch := omega) only [go_sem]); rfl) rfl ?_ | (refine J _ ?_; clear J K) | (refine zqf (fun hb => ?_) (fun hb => ?_) <;> (have hb2 := hb; try simp only [z03] at hb2) <;> ((first | have F := eq_false hb2 | have F := eq_true hb2); (simp (disch := omega) only [go_sem, Nat.reduceBEq, ↓reduceIte, reduceCtorEq, Nat.reduceAdd, F, w1, w7, wH0, z3l, hbn, zfp, List.map_cons]); clear hb F; (try (exfalso; omega)))))
      all_goals first
        | exact z00 (z3y (k := k) hk4 (by rw [hdp, decide_eq_true (by omega)]; rfl)).symm
        | exact z00 (z3y (k := k) hk4 (by rw [‹zps x.by_[k] = false›, Bool.and_false])).symm
        | skip
      all_goals
        (refine Exists.intro _ (And.intro ?_ ⟨k + 1, rfl, ?_⟩)); rotate_left; (simp (disch := omega) only [go_sem, Nat.reduceBEq, w1, w7, wH0, true_and, Int.natCast_add, Int.natCast_one]); rotate_left
        · omega
        · exact ⟨by omega, z2g hk4 wp1 (by rw [hdp, decide_eq_false (by omega), ‹zps x.by_[k] = true›]; rfl)⟩
  · repeat' (first | refine zqj ?_ | ((refine zqh fun K J => ?_); (simp (disch := omega) only [go_sem, Nat.reduceBEq, ↓reduceIte, reduceCtorEq, Nat.reduceAdd, w1, w7, wH0, wnx, z3l])) | ((refine zqd _ rfl (fun hc => ?_) (fun hc => ?_)) <;> (((try simp only [z03] at hc); (try (exfalso; omega))))) | refine zqc ?_ | refine zqn ?_ | refine zqv ?_ | refine zqz ?_ | refine zqp ?_ | refine zqu (by (simp (disch := omega) only [go_sem]); rfl) rfl ?_ | (refine J _ ?_; clear J K))
    exact z00 (z2o hk4 wp1).symm
end
section
open Abs Facts Tr
attribute [local irreducible] awp
set_option maxRecDepth 100000
namespace Tr
theorem zol {s : ByteArray} (h : z3j s = true) : s.size <= 7 := by
 unfold z3j at h
 simp only [Bool.and_eq_true, decide_eq_true_eq] at h
 omega
theorem zge {p : List Stp} (h : z5e p = true) : p.length <= 9 /\ ∀ s ∈ p, s.label.size <= 7 := by
 unfold z5e at h
 simp only [Bool.and_eq_true, decide_eq_true_eq] at h
 obtain ⟨h1, h2⟩ := h
 refine ⟨h1, fun s hs => ?_⟩
 obtain ⟨i, hi, rfl⟩ := List.getElem_of_mem hs
 have := h2 i hi
 unfold okS ze7 zd3 at this
 simp only [Bool.or_eq_true, Bool.and_eq_true, decide_eq_true_eq] at this
 rcases this with ⟨_, _, h⟩ | ⟨_, h⟩
 ·rw [h]; decide
 ·exact zol h
theorem zza {p q : List Stp} {w : Int} (hp : z5e p = true) (hq : z5e q = true) : OkI (.mk 6 p q w 0 T.zero [] [] z1j z1j 0 0 z1j 0 0 0 z1j []) := by
 obtain ⟨a1, a2⟩ := zge hp
 obtain ⟨b1, b2⟩ := zge hq
 have z : szB T.zero = true /\ cntT T.zero <= 1000 /\ depT T.zero <= 50 := by decide +kernel
 refine (z87 _).2 ⟨⟨⟨?_, fun s hs => ?_⟩, ⟨?_, fun s hs => ?_⟩, ⟨Nat.zero_le _, fun s hs => (by cases hs)⟩, ⟨Nat.zero_le _, fun s hs => (by cases hs)⟩, Nat.zero_le _, z, ⟨Nat.zero_le _, Nat.zero_le _, Nat.zero_le _, Nat.zero_le _⟩⟩, fun k hk => (by cases hk)⟩
 ·show p.length <= 1000; omega
 ·have := a2 s hs; omega
 ·show q.length <= 1000; omega
 ·have := b2 s hs; omega
theorem zw1 {p q : List Stp} {w : Int} (h1 : z5e p = true) (h2 : z5e q = true) (hw : 0 <= w /\ w <= 3) : zc8 (.mk 6 p q w 0 T.zero [] [] z1j z1j 0 0 z1j 0 0 0 z1j []) = true := by
 obtain ⟨B, hB⟩ : ∃ B, B = It.mk 6 p q w 0 T.zero [] [] z1j z1j 0 0 z1j 0 0 0 z1j [] := ⟨_, rfl⟩
 rw [<- hB]
 have hk : B.kind = 6 := by rw [hB]; rfl
 have hto : B = zhz B := by
  rw [hB]; unfold zhz
  simp only [It.kind, It.at_, It.to, It.wh, It.nth, It.unit, It.old, It.new, It.label, It.for_, It.sk, It.sd, It.se, It.act, It.item, It.day, It.event, It.by_]
  rfl
 rw [zm3]
 unfold mayF
 rw [decide_eq_true hto, hk, show inB 6 0 11 = true from rfl, show decide ((6 : Int) < 6) = false from rfl, show B.at_ = p from by rw [hB]; rfl, h1]
 unfold z4p
 rw [hk, if_neg (by decide), if_neg (by decide), if_neg (by decide), if_neg (by decide), if_neg (by decide), if_pos rfl, show B.to = q from by rw [hB]; rfl, h2, show B.wh = w from by rw [hB]; rfl, show inB w 0 3 = true from decide_eq_true hw,
  show B.for_ = z1j from by rw [hB]; rfl, show B.sk = 0 from by rw [hB]; rfl, show B.sd = 0 from by rw [hB]; rfl, show B.se = z1j from by rw [hB]; rfl]
 rfl
theorem zzb {u : T} {d : EIt} (hk : d.it.kind = 6) (hm : zc8 d.it = true) (h1 : (z24 u d.it.at_).2 = 0) (h2 : (z24 u d.it.to).2 = 0) : doR u d = (z2d u (z24 u d.it.at_).1 (z24 u d.it.to).1 d.it.wh, z2c u (z24 u d.it.at_).1 (z24 u d.it.to).1 d.it.wh) := by
 unfold doR
 rw [decide_eq_true (p := 0 <= d.it.kind /\ d.it.kind <= 6) (by omega), hm, Bool.true_and, if_neg (by simp), if_neg (by simpa using h1), if_neg (by omega), if_neg (by simpa using h2)]
end Tr
set_option maxHeartbeats 32000000 in
theorem zlb (u : T) (hfu : fitB u = true) (d : EIt) (hr : RdI d.it) : PC Tryz.prog 4 [z17 u, zm1 d] (.bool true) := by
 have c1 := znu u hfu 30 (by decide) (by decide)
 have c2 := zvf d.it hr
 refine z1y 1 (by simp only [pureD.pureL, z05, zbd, Bool.and_self]) rfl (z1w [] Tryz.func4 rfl (by decide +kernel) z0j (by decide +kernel) (by simp [Tryz.ntmps4]) ?_)
 show awp _ _ (Code.seq _ _) _ _
 by_cases hb : zpe u 30 = true
 case neg =>
  rw [Bool.not_eq_true] at hb
  rw [hb] at c1
  repeat' (first | refine zqj ?_ | ((first | refine z01 (N := 3) rfl fun K J => ?_ | refine zqs (c1) ?_); (simp (disch := omega) only [go_sem, Nat.reduceBEq, ↓reduceIte, Nat.reduceAdd, Nat.reduceLeDiff])) | ((refine zqd _ rfl (fun hc => ?_) (fun hc => ?_)) <;> (first | (cases hc; done) | ((try simp only [] at hc); (try (exfalso; omega))))) | refine zqg ?_ | refine zqu (by (simp (disch := omega) only [go_sem]); rfl) rfl ?_ | (refine J _ ?_; clear J K))
  exact z00 rfl
 rw [hb] at c1
 by_cases hf : zps d.it = true
 case neg =>
  rw [Bool.not_eq_true] at hf
  rw [hf] at c2
  repeat' (first | refine zqj ?_ | ((first | refine z01 (N := 3) rfl fun K J => ?_ | refine zqs (c1) ?_ | refine zqs (c2) ?_); (simp (disch := omega) only [go_sem, Nat.reduceBEq, ↓reduceIte, reduceCtorEq, Nat.reduceAdd, Nat.reduceLeDiff])) | ((refine zqd _ rfl (fun hc => ?_) (fun hc => ?_)) <;> (first | (cases hc; done) | ((try simp only [] at hc); (try (exfalso; omega))))) | refine zqg ?_ | refine zqu (by (simp (disch := omega) only [go_sem]); rfl) rfl ?_ | (refine J _ ?_; clear J K))
  exact z00 rfl
 rw [hf] at c2
 have hx := few_ok d.it hf
 have c3 := zmh d.it hx
 by_cases hm : zc8 d.it = true
 case neg =>
  rw [Bool.not_eq_true] at hm
  rw [hm] at c3
  repeat' (first | refine zqj ?_ | ((first | refine z01 (N := 3) rfl fun K J => ?_ | refine zqs (c1) ?_ | refine zqs (c2) ?_ | refine zqs (c3) ?_); (simp (disch := omega) only [go_sem, Nat.reduceBEq, ↓reduceIte, reduceCtorEq, Nat.reduceAdd, Nat.reduceLeDiff])) | ((refine zqd _ rfl (fun hc => ?_) (fun hc => ?_)) <;> (first | (cases hc; done) | ((try simp only [] at hc); (try (exfalso; omega))))) | refine zqg ?_ | refine zqu (by (simp (disch := omega) only [go_sem]); rfl) rfl ?_ | (refine J _ ?_; clear J K))
  exact z00 rfl
 rw [hm] at c3
 by_cases hk : d.it.kind = 6
 case neg =>
  repeat' (first | refine zqj ?_ | ((first | refine z01 (N := 3) rfl fun K J => ?_ | refine zqs (c1) ?_ | refine zqs (c2) ?_ | refine zqs (c3) ?_); (simp (disch := omega) only [go_sem, Nat.reduceBEq, ↓reduceIte, reduceCtorEq, Nat.reduceAdd, Nat.reduceLeDiff])) | ((refine zqd _ rfl (fun hc => ?_) (fun hc => ?_)) <;> (((try simp only [z03] at hc); (try (exfalso; omega))))) | refine zqg ?_ | refine zqu (by (simp (disch := omega) only [go_sem]); rfl) rfl ?_ | (refine J _ ?_; clear J K))
  exact z00 rfl
 have hst := zlr hb
 have hfb : zvi u 30 = true := by unfold zpe at hb; rw [Bool.and_eq_true] at hb; exact hb.1
 obtain ⟨z1, z2, z3⟩ := zql (most := 30) (by decide) (by decide) hfb
 obtain ⟨b, _⟩ := (z87 d.it).1 hx
 have c5 := zr4 u hst z1 (by omega) d hx (.inr hk)
 have c6 := zv1 u z1 (by omega) d.it hx
 repeat' (first | refine zqj ?_ | ((first | refine z01 (N := 3) rfl fun K J => ?_ | refine zqs (c1) ?_ | refine zqs (c2) ?_ | refine zqs (c3) ?_); (simp (disch := omega) only [go_sem, Nat.reduceBEq, ↓reduceIte, reduceCtorEq, Nat.reduceAdd, Nat.reduceLeDiff])) | ((refine zqd _ rfl (fun hc => ?_) (fun hc => ?_)) <;> (((try simp only [z03] at hc); (try (exfalso; omega))))) | refine zqb ?_ | (refine J _ ?_; clear J K))
 (refine z1c (fun st => st.t 2 = .ptr 0 0 /\ st.t 3 = .ptr 1 0 /\ st.H 0 = some (.box 27 (z06 u)) /\ st.H 1 = some (.box 36 (z0k d)) /\ st.nx = 2) ?_ ?_); rotate_left; (rintro st ⟨p2, p3, pH0, pH1, pnx⟩); rotate_left
 ·(simp (disch := omega) only [go_sem, Nat.reduceBEq, and_self])
  try exact ⟨rfl, rfl⟩
 by_cases hd : (doR u d).2 = 0
 case neg =>
  have hdd : decide ((doR u d).2 = 0) = false := decide_eq_false hd
  repeat' (first | refine zqj ?_ | ((first | refine zqh fun K J => ?_ | refine zqs (c5) ?_); (simp (disch := omega) only [go_sem, Nat.reduceBEq, ↓reduceIte, Nat.reduceAdd, Nat.reduceLeDiff, p2, p3, pH0, pH1, pnx])) | ((refine zqd _ rfl (fun hc => ?_) (fun hc => ?_)) <;> (((try simp only [z03] at hc); (try (exfalso; omega))))) | refine zqg ?_ | refine zqu (by (simp (disch := omega) only [go_sem]); rfl) rfl ?_ | (refine J _ ?_; clear J K))
  exact z00 rfl
 obtain ⟨y1, y2⟩ := ztv hst z1 hm (.inr hk) hd b.unit.1 (by have := b.unit.2.2; omega)
 -- what was done
 have hk2 : decide (0 <= d.it.kind /\ d.it.kind <= 6) = true := decide_eq_true (by omega)
 have hw := ztt hm (.inr hk)
 have h1 : (z24 u d.it.at_).2 = 0 := by
  unfold doR at hd
  rw [hk2, hm, Bool.true_and, if_neg (by simp)] at hd
  by_cases h : (z24 u d.it.at_).2 = 0
  ·exact h
  ·rw [if_pos h] at hd; exact (h hd).elim
 have h2 : (z24 u d.it.to).2 = 0 := by
  unfold doR at hd
  rw [hk2, hm, Bool.true_and, if_neg (by simp), if_neg (by simpa using h1), if_neg (by omega)] at hd
  by_cases h : (z24 u d.it.to).2 = 0
  ·exact h
  ·rw [if_pos h] at hd; exact (h hd).elim
 have hin : (z24 u d.it.at_).1 ∈ z0c u := zgz (e := (z24 u d.it.at_).2) rfl h1
 have hto : (z24 u d.it.to).1 ∈ z0c u := zgz (e := (z24 u d.it.to).2) rfl h2
 have hdo : doR u d = (z2d u (z24 u d.it.at_).1 (z24 u d.it.to).1 d.it.wh, z2c u (z24 u d.it.at_).1 (z24 u d.it.to).1 d.it.wh) := by
  unfold doR
  rw [hk2, hm, Bool.true_and, if_neg (by simp), if_neg (by simpa using h1), if_neg (by omega), if_neg (by simpa using h2)]
 rw [h1] at c6
 rw [hd] at c5
 generalize (z24 u d.it.at_).1 = id at *
 generalize (z24 u d.it.to).1 = to0 at *
 obtain ⟨under, n, e1, e2, e3, e4, e5, e6, e7⟩ := ztu hst hin hto (by rw [hdo] at hd; exact hd)
 have h0u := (z8t hst hin hto (by rw [hdo] at hd; exact hd)).1
 rw [show z2d u id to0 d.it.wh = (doR u d).1 from by rw [hdo]] at *
 generalize (doR u d).1 = v at *
 obtain ⟨_, k1, k2, k3, k4, k5⟩ := zf6 e5
 obtain ⟨_, d8, _⟩ := (z1f v).1 e2
 have c7 := zpd id u z1
 rw [e1] at c7
 have c8 := znb under u z1
 have c9 := zdk id v y1 (by omega) e3
 have c10 := zdk under v y1 (by omega) k2
 have hPz := zbk under u z1
 obtain ⟨P, hP⟩ : ∃ P, P = (z07 under u).1 := ⟨_, rfl⟩
 rw [<- hP] at c8 hPz
 have hPl := ((z1l P).1 hPz).2.2.2.2.2.1
 have hnP : n + 1 <= P.kids.length := by
  obtain ⟨_, h, _⟩ := at_par ((z1f u).1 hst).2.2.2.1 h0u hin e1
  rw [hP]; omega
 have hnt : ((n : Int) + 1).toNat = n + 1 := by omega
 have hwr : IntKind.i64.wrap ((n : Int) + 1) = ((n + 1 : Nat) : Int) := by rw [zed (by omega)]; omega
 obtain ⟨to, wh, g1, g2, m1, m2, m3, m4⟩ : ∃ (to : Idv) (wh : Int), (∀ h : n + 1 < P.kids.length, wh = 3 /\ to = (P.kids[n + 1]).id) /\ (¬ n + 1 < P.kids.length -> wh = 1 /\ to = under) /\ to ∈ z0c v /\ z2c v id to wh = 0 /\ z2d v id to wh = u /\ zev v id to wh = ((under, (n : Int)), 0) := by
  by_cases hlt : n + 1 < P.kids.length
  ·exact ⟨(P.kids[n + 1]).id, 3, fun _ => ⟨rfl, rfl⟩, fun h => (h hlt).elim, zgt (to := (P.kids[n + 1]).id) (wh := 3) e2 e5 e6 (by rw [<- hP, if_pos hlt]; exact ⟨rfl, hlt, by simp only [hP]⟩)⟩
  ·exact ⟨under, 1, fun h => (hlt h).elim, fun _ => ⟨rfl, rfl⟩, zgt (to := under) (wh := 1) e2 e5 e6 (by rw [<- hP, if_neg hlt]; exact ⟨rfl, rfl⟩)⟩
 have hwh : wh = 3 \/ wh = 1 := by
  by_cases hlt : n + 1 < P.kids.length
  ·exact .inl (g1 hlt).1
  ·exact .inr (g2 hlt).1
 obtain ⟨L, hL⟩ : ∃ L : List D, L = [.int .i64 6, z0a (z49 id v), z0a (z49 to v), .int .i64 wh, .int .i64 0, .int .i64 0, .int .i64 0, .int .i64 0, .int .i64 0, .str ⟨#[]⟩, .nil, .nil, .nil, .nil, .nil, .str ⟨#[]⟩, .str ⟨#[]⟩, .int .i64 0, .int .i64 0, .str ⟨#[]⟩, .int .i64 0, .int .i64 0, .int .i64 0, .str ⟨#[]⟩, .nil] := ⟨_, rfl⟩
 have c11 := zdk to v y1 (by omega) m1
 repeat' (first | refine zqj ?_ | ((first | refine z01 (N := 12) rfl fun K J => ?_ | refine zqs (c5) ?_ | refine zqs (c6) ?_ | refine zqs (c7) ?_ | refine zqs (c8) ?_ | refine zqs (c9) ?_ | refine zqs (c10) ?_); (simp (disch := omega) only [go_sem, Nat.reduceBEq, ↓reduceIte, reduceCtorEq, Nat.reduceAdd, Nat.reduceLeDiff, p2, p3, pH0, pH1, pnx])) | ((refine zqd _ rfl (fun hc => ?_) (fun hc => ?_)) <;> (first | (cases hc; done) | ((try simp only [] at hc); (try (exfalso; omega))))) | refine zqb ?_ | (refine J _ ?_; clear J K))
 (refine z3n (fun st => st.t 2 = .ptr 0 0 /\ st.t 5 = .ptr 2 0 /\ st.t 9 = .ptr 4 0 /\ st.t 10 = .int .i64 n /\ st.t 18 = .ptr 6 0 /\ st.H 0 = some (.box 27 (z06 u)) /\ st.H 2 = some (.box 27 (z06 v)) /\ st.H 4 = some (.box 23 (z04 under)) /\ st.H 6 = some (.box 34 L) /\ st.nx = 7) ?_ ?_); rotate_left; (rintro st ⟨q2, q5, q9, q10, q18, qH0, qH2, qH4, qH6, qnx⟩); rotate_left
 ·by_cases hlt : n + 1 < P.kids.length
  ·obtain ⟨rfl, rfl⟩ := g1 hlt
   repeat' (first | ((first | refine zqh fun K J => ?_ | refine zqe (by decide +kernel) fun K J => ?_ | refine zqr fun K J => ?_ | refine zqt (c11) ?_); (simp (disch := omega) only [go_sem, Nat.reduceBEq, ↓reduceIte, reduceCtorEq, Nat.reduceAdd, Nat.reduceLeDiff, Nat.reduceLT, z0e, hwr])) | ((refine zqm _ rfl (fun hc => ?_) (fun hc => ?_)) <;> (((try simp only [z03] at hc); (try (exfalso; omega))))) | (refine J _ ?_; clear J K))
   (refine z46 ?_); (simp (disch := omega) only [go_sem, Nat.reduceBEq, p2, pH0, and_self, z04, hL])
  ·obtain ⟨rfl, rfl⟩ := g2 hlt
   repeat' (first | ((refine zqh fun K J => ?_); (simp (disch := omega) only [go_sem, Nat.reduceBEq, ↓reduceIte, reduceCtorEq, Nat.reduceAdd, z0e, hwr])) | ((refine zqm _ rfl (fun hc => ?_) (fun hc => ?_)) <;> (((try simp only [z03] at hc); (try (exfalso; omega))))) | refine zqk ?_ | (refine J _ ?_; clear J K))
   (refine z46 ?_); (simp (disch := omega) only [go_sem, Nat.reduceBEq, p2, pH0, and_self, z04, hL])
 have hB : ∃ B, B = It.mk 6 (z49 id v) (z49 to v) wh 0 T.zero [] [] z1j z1j 0 0 z1j 0 0 0 z1j [] := ⟨_, rfl⟩
 obtain ⟨B, hB⟩ := hB
 have hwB : z5e (z49 id v) = true := zi0 e2 e3
 have hwT : z5e (z49 to v) = true := zi0 e2 m1
 have okB : OkI B := by rw [hB]; exact zza hwB hwT
 have mB : zc8 B = true := by rw [hB]; exact zw1 hwB hwT (by omega)
 have o1 : z24 v (z49 id v) = (id, 0) := zkj e2 e3
 have o2 : z24 v (z49 to v) = (to, 0) := zkj e2 m1
 have hBk : B.kind = 6 := by rw [hB]; rfl
 have hBw : B.wh = wh := by rw [hB]; rfl
 have o3 : z24 v B.at_ = (id, 0) := by rw [hB]; exact o1
 have o4 : z24 v B.to = (to, 0) := by rw [hB]; exact o2
 have hdst : zx5 v B = ((under, (n : Int)), 0) := by
  unfold zx5
  rw [if_neg (by rw [hBk]; decide), if_neg (by rw [hBw, whB_of (by omega)]; simp [hBk]), if_neg (by rw [o3]; simp), if_neg (by rw [o4]; simp), o3, o4, hBw]
  exact m4
 have hdr : doR v ⟨0, 0, 0, B⟩ = (u, 0) := by
  rw [zzb (d := ⟨0, 0, 0, B⟩) hBk mB (by show (z24 v B.at_).2 = 0; rw [o3]) (by show (z24 v B.to).2 = 0; rw [o4])]
  show (z2d v (z24 v B.at_).1 (z24 v B.to).1 B.wh, z2c v (z24 v B.at_).1 (z24 v B.to).1 B.wh) = _
  rw [o3, o4, hBw, m2, m3]
 obtain ⟨bB, _⟩ := (z87 B).1 okB
 have m1000 : 1000 <= maxLen := by unfold maxLen; omega
 have hle : LeL L (z0i B) := by
  rw [z0g, hB, hL]
  repeat' (first | exact trivial | exact Le.refl _ | exact Le.nil _ | refine And.intro ?_ ?_)
 have hp : pureD.pureL L = true := by simp only [hL, pureD, pureD.pureL, z0r, Bool.and_self]
 have c12 := (zft v y1 (by omega) (by omega) B (by have := bB.at_.1; omega) (fun s hs => by have := bB.at_.2 s hs; omega) (by have := bB.to.1; omega) (fun s hs => by have := bB.to.2 s hs; omega)).le (ds := [z17 v, .agg L]) (by simp only [pureD.pureL, pureD, z05]; exact Bool.and_eq_true_iff.2 ⟨rfl, Bool.and_eq_true_iff.2 ⟨hp, rfl⟩⟩) ⟨Le.refl _, Le.agg hle, trivial⟩
 have c13 := (zr4 v e2 y1 (by omega) ⟨0, 0, 0, B⟩ okB (.inr (by rw [hB]; rfl))).le (ds := [z17 v, .agg (.int .i64 0 :: .int .i64 0 :: .int .i64 0 :: L)]) (by simp only [pureD.pureL, pureD, z05]; exact Bool.and_eq_true_iff.2 ⟨rfl, Bool.and_eq_true_iff.2 ⟨hp, rfl⟩⟩) ⟨Le.refl _, Le.agg ⟨Le.refl _, Le.refl _, Le.refl _, hle⟩, trivial⟩
 rw [hdst] at c12
 rw [hdr] at c13
 unfold zv4 at c12
 have c14 := zlp u z1 u z1
 rw [decide_eq_true rfl] at c14
 have hid : decide (under = under) = true := decide_eq_true rfl
 clear hle hp
 have hL1 : L.length = 25 := by rw [hL]; rfl
 have hL2 : List.take 25 L = L := List.take_of_length_le (by omega)
 obtain ⟨Z, hZ, hZ1, hZ2⟩ : ∃ Z, z23 Tryz.prog 36 = some Z /\ Z.length = 28 /\ z11 Z 3 L = .int .i64 0 :: .int .i64 0 :: .int .i64 0 :: L := by
  refine ⟨_, zy6, rfl, ?_⟩
  rw [z73 _ _ _ (by rw [hL1]; decide), hL1]
  show _ ++ L ++ [] = _
  rw [List.append_nil]; rfl
 clear hL
 repeat' (first | ((first | refine zqh fun K J => ?_ | refine zqs (c12) ?_ | refine zqs (c13) ?_ | refine zqs (c14) ?_); (simp (disch := omega) only [go_sem, Nat.reduceBEq, ↓reduceIte, Nat.reduceAdd, Nat.reduceLeDiff, q2, q5, q9, q10, q18, qH0, qH2, qH4, qH6, qnx, z04, decide_true, hL1, hL2, hZ, hZ1, hZ2])) | refine zqn ?_ | refine zqu (by (simp (disch := omega) only [go_sem]); rfl) rfl ?_ | (refine J _ ?_; clear J K))
 exact z00 rfl
end
end Go.Proofs.YtppebcifiejplaaGreat
