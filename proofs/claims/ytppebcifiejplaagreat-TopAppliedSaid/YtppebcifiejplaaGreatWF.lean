import Derived.Test.YtppebcifiejplaaGreatWE
/-
 Lemmas of the claim. No condition but those that each names.
-/
set_option linter.unusedSimpArgs false
set_option linter.unusedVariables false
set_option maxHeartbeats 8000000
set_option linter.unusedSectionVars false
namespace Go.Proofs.YtppebcifiejplaaGreat
section
open Abs Facts Tr
attribute [local irreducible] awp
set_option maxRecDepth 100000
theorem zuk (u : T) (hs : szB u = true) (hc : cntT u <= 1100) (p : List Stp) (hl : p.length <= maxLen) (hps : ∀ s ∈ p, s.label.size <= maxLen) : PC Tryz.prog 89 [z1a u, z0a p] (z0e (z2k u p)) := by
 have c1 := zs7 p hl hps
 have hc0 := hc
 have hn0 : (z08 u).length <= 1100 := hc
 refine z1v 2 (by simp only [pureD.pureL, z04, z0z, Bool.and_self]) (z1b _) (z1t [8] Tryz.func89 rfl (by decide +kernel) z0k (by decide +kernel) (by simp [Tryz.ntmps89]) ?_)
 show awp _ _ (Code.seq _ _) _ _
 by_cases hv : z8r p = true
 ·rw [hv] at c1
  have h9 := (zt7 hv).1
  unfold z2k
  rw [if_pos hv]
  repeat' (first | refine zqj ?_ | ((first | refine z01 (N := 3) rfl fun K J => ?_ | refine zqs (c1) ?_); (simp (disch := omega) only [go_sem, Nat.reduceBEq, ↓reduceIte, Nat.reduceAdd, z0a])) | ((refine zqd _ rfl (fun hc => ?_) (fun hc => ?_)) <;> (first | (cases hc; done) | ((try simp only [] at hc); (try (exfalso; omega))))) | refine zqb ?_ | (refine J _ ?_; clear J K))
  cases p with
  | nil =>
   repeat' (first | ((refine zqh fun K J => ?_); (simp (disch := omega) only [go_sem, Nat.reduceBEq, ↓reduceIte, reduceCtorEq, Nat.reduceAdd, Nat.reduceMul, Nat.reduceLeDiff])) | ((refine zqm _ rfl (fun hc => ?_) (fun hc => ?_)) <;> (first | (cases hc; done) | ((try simp only [decide_eq_true_eq] at hc); (try (exfalso; omega))))) | refine zqa ?_ | refine zqn ?_ | refine zqx ?_ | refine z4f ?_ | refine zqu (by (simp (disch := omega) only [go_sem]); rfl) rfl ?_ | (refine J _ ?_; clear J K))
   refine z02 ?_ Le.rsl
   show pureD (.rsl true 8 [.agg (z05 u)]) = true
   simp only [pureD, pureD.pureL, z0d, Bool.and_self]
  | cons s r =>
   have c2 := zmc s
   have hz : Int.toNat 0 = 0 := rfl
   simp only [List.length_cons] at h9
   by_cases hb : zew s = true
   ·have hft : z16 u s = [u] := if_pos hb
    have hfu : (z16 u s).map z1a = [.agg (z05 u)] := by rw [hft]; rfl
    rw [hb] at c2
    repeat' (first | refine zqj ?_ | ((first | refine zqh fun K J => ?_ | refine zqr fun K J => ?_ | refine zqs (c2) ?_); (simp (disch := omega) only [go_sem, Nat.reduceBEq, ↓reduceIte, reduceCtorEq, Nat.reduceAdd, Nat.reduceMul, Nat.reduceLeDiff, Nat.reduceLT, Int.reduceLE, List.map_cons, List.length_cons, zf9, List.drop_zero])) | ((refine zqm _ rfl (fun hc => ?_) (fun hc => ?_)) <;> (first | (cases hc; done) | ((try simp only [decide_eq_false_iff_not] at hc); (try (exfalso; omega))))) | refine zqa ?_ | refine zqv ?_ | refine zqy ?_ | (refine J _ ?_; clear J K))
    (refine z35 (fun U st => ∃ (k : _) (L : List T) (nn : Bool), U = r.length - k /\ st.t 5 = .ptr 2 0 /\ st.t 33 = .rsl false 2 (r.map z7n) /\ st.t 34 = .int .i64 r.length /\ st.t 35 = .int .i64 k /\ st.H 2 = some (.box 25 [.rsl nn 8 (L.map z1a)]) /\ (k <= r.length) /\ (L = (r.take k).foldl z1s (z16 u s)) /\ (3 <= st.nx)) ?_ ?_); rotate_left; (rintro U st ⟨k, L, nn, rfl, t5, t33, t34, t35, tH2, tp0, tp1, tp2⟩); rotate_left
    ·(refine ⟨_, 0, z16 u s, true, rfl, ?_⟩); (simp (disch := omega) only [go_sem, Nat.reduceBEq, Nat.reduceLeDiff, true_and, and_true, Int.natCast_add, Int.natCast_one, Int.natCast_zero, hfu])
     exact ⟨rfl, rfl, rfl⟩
    have hLw : z8s L <= 1210000 := by rw [tp1]; exact z6x _ _ (z6w hc0)
    by_cases hk : k < r.length
    ·obtain ⟨sk, hsk⟩ : ∃ sk, sk = r[k]'hk := ⟨_, rfl⟩
     have hLn : (z1s L sk).length <= 1210000 := Nat.le_trans (z5i _) (Nat.le_trans (z8t _ _) hLw)
     have hLl : L.length <= 1210000 := Nat.le_trans (z5i _) hLw
     have hLm : ∀ x ∈ L, x ∈ z08 u := by rw [tp1]; exact z9a _ _ z8u
     repeat' (first | refine zqj ?_ | ((refine zqh fun K J => ?_); (simp (disch := omega) only [go_sem, Nat.reduceBEq, ↓reduceIte, reduceCtorEq, Nat.reduceAdd, Nat.reduceLeDiff, t5, t33, t34, t35, tH2, <- hsk])) | ((refine zqd _ rfl (fun hc => ?_) (fun hc => ?_)) <;> (((try simp only [z03] at hc); (try (exfalso; omega))))) | refine zqa ?_ | refine zqb ?_ | (refine J _ ?_; clear J K))
     (refine z35 (fun U st => ∃ (i : _) (a : Nat) (m : Nat), U = L.length - i /\ st.t 5 = .ptr 2 0 /\ st.t 33 = .rsl false 2 (r.map z7n) /\ st.t 34 = .int .i64 r.length /\ st.t 35 = .int .i64 k /\ st.t 7 = .ptr a 0 /\ st.t 8 = .osl m ((L.take i).flatMap (fun x => x.kids.filter (atB sk))).length /\ st.t 39 = .rsl nn 8 (L.map z1a) /\ st.t 40 = .int .i64 L.length /\ st.t 41 = .int .i64 i /\ st.H 2 = some (.box 25 [.rsl nn 8 (L.map z1a)]) /\ st.H (a) = some (.box 59 (z62 sk)) /\ st.H (m) = some (.row 27 ((L.take i).flatMap (fun x => x.kids.filter (atB sk))).length (((L.take i).flatMap (fun x => x.kids.filter (atB sk))).flatMap z05)) /\ (i <= L.length) /\ (2 < a) /\ (2 < m) /\ (¬ a = m) /\ (a < st.nx) /\ (m < st.nx)) ?_ ?_); rotate_left; (rintro U st ⟨i, a, m, rfl, v5, v33, v34, v35, v7, v8, v39, v40, v41, vH2, vHa, vHm, vp0, vp1, vp2, vp3, vp4, vp5⟩); rotate_left
     ·(refine ⟨_, 0, st.nx, st.nx + 1, rfl, ?_⟩); (simp (disch := omega) only [go_sem, Nat.reduceBEq, t5, t33, t34, t35, tH2, true_and, Int.natCast_zero, List.flatMap_nil, z62])
      exact ⟨by omega, by omega, by omega⟩
     have h2m : (2 == m) = false := by simp; omega
     have hm2 : (m == 2) = false := by simp; omega
     have ham : (a == m) = false := by simp; omega
     by_cases hi : i < L.length
     ·have hkl : L[i].kids.length <= 1000000 := (z5y (z72 u hs _ (hLm _ (List.getElem_mem hi)))).1
      repeat' (first | ((refine zqh fun K J => ?_); (simp (disch := omega) only [go_sem, Nat.reduceBEq, ↓reduceIte, reduceCtorEq, Nat.reduceAdd, Nat.reduceLeDiff, v39, v40, v41, z0e])) | ((refine zqd _ rfl (fun hc => ?_) (fun hc => ?_)) <;> (((try simp only [z03] at hc); (try (exfalso; omega))))) | refine zqa ?_ | refine zqi ?_ | refine zqb ?_ | (refine J _ ?_; clear J K))
      (refine z35 (fun U st => ∃ (j : _) (b : Nat), U = L[i].kids.length - j /\ st.t 5 = .ptr 2 0 /\ st.t 33 = .rsl false 2 (r.map z7n) /\ st.t 34 = .int .i64 r.length /\ st.t 35 = .int .i64 k /\ st.t 7 = .ptr a 0 /\ st.t 8 = .osl m ((L.take i).flatMap (fun x => x.kids.filter (atB sk)) ++ (L[i].kids.take j).filter (atB sk)).length /\ st.t 39 = .rsl nn 8 (L.map z1a) /\ st.t 40 = .int .i64 L.length /\ st.t 41 = .int .i64 i /\ st.t 46 = z0e L[i].kids /\ st.t 47 = .int .i64 L[i].kids.length /\ st.t 48 = .int .i64 j /\ st.H 2 = some (.box 25 [.rsl nn 8 (L.map z1a)]) /\ st.H (a) = some (.box 59 (z62 sk)) /\ st.H (m) = some (.row 27 ((L.take i).flatMap (fun x => x.kids.filter (atB sk)) ++ (L[i].kids.take j).filter (atB sk)).length (((L.take i).flatMap (fun x => x.kids.filter (atB sk)) ++ (L[i].kids.take j).filter (atB sk)).flatMap z05)) /\ (j <= L[i].kids.length) /\ (2 < a) /\ (2 < m) /\ (¬ a = m) /\ (a < st.nx) /\ (m < st.nx) /\ (b = 0)) ?_ ?_); rotate_left; (rintro U st ⟨j, b, rfl, w5, w33, w34, w35, w7, w8, w39, w40, w41, w46, w47, w48, wH2, wHa, wHm, wp0, wp1, wp2, wp3, wp4, wp5, wp6⟩); rotate_left
      ·(refine ⟨_, 0, 0, rfl, ?_⟩); (simp (disch := omega) only [go_sem, Nat.reduceBEq, v5, v33, v34, v35, v7, v8, v39, v40, v41, vH2, vHa, vHm, true_and, and_true, and_self, Int.natCast_zero, List.append_nil, z0e, List.take_zero, List.filter_nil])
       exact ⟨by omega, by omega, by omega⟩
      have hpt := zb0 (s := sk) hi j
      rw [List.length_append] at hpt
      by_cases hj : j < L[i].kids.length
      ·have c5 := zeg L[i].kids[j] sk
       have htk := List.take_succ_eq_append_getElem hj
       repeat' (first | ((first | refine zqh fun K J => ?_ | refine zqr fun K J => ?_ | refine zqs (c5) ?_); (simp (disch := omega) only [go_sem, Nat.reduceBEq, ↓reduceIte, reduceCtorEq, Nat.reduceAdd, Nat.reduceMul, Nat.reduceLeDiff, w7, w8, w46, w47, w48, wHa, wHm, z0e, z62])) | ((first | refine zqd _ rfl (fun hc => ?_) (fun hc => ?_) | refine zqm _ rfl (fun hc => ?_) (fun hc => ?_)) <;> (((try simp only [z03] at hc); (try (exfalso; omega))))) | refine zqa ?_ | refine zqb ?_ | refine zqk ?_ | refine zqv ?_ | refine zqy ?_ | (refine J _ ?_; clear J K))
       ·have htf : (L[i].kids.take (j + 1)).filter (atB sk) = (L[i].kids.take j).filter (atB sk) ++ [L[i].kids[j]] := by
         rw [htk, List.filter_append, List.filter_cons, if_pos (by assumption)]; rfl
        (refine Exists.intro _ (And.intro ?_ ⟨j + 1, 0, rfl, ?_⟩)); rotate_left; (simp (disch := omega) only [go_sem, Nat.reduceBEq, w5, w33, w34, w35, w7, w8, w39, w40, w41, w46, w47, w48, wH2, wHa, wHm, true_and, and_true, and_self, Int.natCast_add, Int.natCast_one, List.flatMap_append, List.flatMap_cons, List.flatMap_nil, List.append_nil, htf, h2m, ham, List.length_append, List.length_cons, List.length_nil, Nat.add_assoc, List.append_assoc]); rotate_left
        ·omega
        ·repeat' (omega)
       ·have htf : (L[i].kids.take (j + 1)).filter (atB sk) = (L[i].kids.take j).filter (atB sk) := by
         rw [htk, List.filter_append, List.filter_cons, if_neg (by rw [‹atB sk L[i].kids[j] = false›]; simp), List.filter_nil, List.append_nil]
        (refine Exists.intro _ (And.intro ?_ ⟨j + 1, 0, rfl, ?_⟩)); rotate_left; (simp (disch := omega) only [go_sem, Nat.reduceBEq, w5, w33, w34, w35, w7, w8, w39, w40, w41, w46, w47, w48, wH2, wHa, wHm, true_and, and_true, and_self, Int.natCast_add, Int.natCast_one, List.flatMap_append, htf]); rotate_left
        ·omega
        ·repeat' (omega)
      ·repeat' (first | ((first | refine zqh fun K J => ?_ | refine zqr fun K J => ?_); (simp (disch := omega) only [go_sem, Nat.reduceBEq, ↓reduceIte, w41, w47, w48])) | ((refine zqd _ rfl (fun hc => ?_) (fun hc => ?_)) <;> (((try simp only [z03] at hc); (try (exfalso; omega))))) | refine zqc ?_ | refine zqv ?_ | refine zqy ?_ | refine zqz ?_ | refine zqp ?_ | (refine J _ ?_; clear J K))
       have hj2 : L[i].kids.take j = L[i].kids := List.take_of_length_le (by omega)
       have htk : (L.take (i + 1)).flatMap (fun x => x.kids.filter (atB sk)) = (L.take i).flatMap (fun x => x.kids.filter (atB sk)) ++ L[i].kids.filter (atB sk) := by
        rw [List.take_succ_eq_append_getElem hi, List.flatMap_append, List.flatMap_cons, List.flatMap_nil, List.append_nil]
       rw [hj2, <- htk] at w8 wHm
       (refine Exists.intro _ (And.intro ?_ ⟨i + 1, a, m, rfl, ?_⟩)); rotate_left; (simp (disch := omega) only [go_sem, Nat.reduceBEq, w5, w33, w34, w35, w7, w8, w39, w40, w41, wH2, wHa, wHm, true_and, Int.natCast_add, Int.natCast_one]); rotate_left
       ·omega
       ·repeat' (omega)
     ·skip
      repeat' (first | ((refine z01 (N := 23) rfl fun K J => ?_); (simp (disch := omega) only [go_sem, ↓reduceIte, v40, v41])) | ((refine zqd _ rfl (fun hc => ?_) (fun hc => ?_)) <;> (((try simp only [z03] at hc); (try (exfalso; omega))))) | refine zqc ?_ | refine zqv ?_ | refine zqz ?_ | refine zqp ?_ | (refine J _ ?_; clear J K))
      have hi2 : L.take i = L := List.take_of_length_le (by omega)
      have hnx : (r.take (k + 1)).foldl z1s (z16 u s) = z1s L sk := by
       rw [tp1, List.take_succ_eq_append_getElem (by omega), List.foldl_append, hsk]; rfl
      rw [hi2] at v8 vHm
      have hnt : L.flatMap (fun x => x.kids.filter (atB sk)) = z1s L sk := rfl
      rw [hnt] at v8 vHm
      have g1 : z1f true 8 (z1s L sk).length ((z1s L sk).flatMap z05) = (z1s L sk).map z1a := z3b _ _ rfl
      refine zqr fun K J => ?_
      (simp (disch := omega) only [go_sem, Nat.reduceBEq, ↓reduceIte, Nat.reduceLeDiff, Nat.reduceLT, v5, v8, vH2])
      refine J _ ?_
      clear J K
      refine zqy (zam _ (z9y (P := Tryz.prog) (id := m) (e := 27) (k := (z1s L sk).length) (cs := (z1s L sk).flatMap z05) (by (simp (disch := omega) only [go_sem, vHm, hm2])) (by decide +kernel) (z40 _)) ?_)
      repeat' (first | ((refine zqr fun K J => ?_); (simp (disch := omega) only [go_sem, Nat.reduceBEq, ↓reduceIte, v35, g1])) | (refine J _ ?_; clear J K))
      (refine Exists.intro _ (And.intro ?_ ⟨k + 1, z1s L sk, false, rfl, ?_⟩)); rotate_left; (simp (disch := omega) only [go_sem, Nat.reduceBEq, v5, v33, v34, v35, vH2, true_and, Int.natCast_add, Int.natCast_one, List.map_cons, List.map_nil, g1, h2m]); rotate_left
      ·omega
      ·exact ⟨by omega, hnx.symm, by omega⟩
    ·skip
     repeat' (first | ((refine zqh fun K J => ?_); (simp (disch := omega) only [go_sem, Nat.reduceBEq, ↓reduceIte, Nat.reduceAdd, t5, t34, t35, tH2])) | ((refine zqd _ rfl (fun hc => ?_) (fun hc => ?_)) <;> (((try simp only [z03] at hc); (try (exfalso; omega))))) | refine zqc ?_ | refine zqn ?_ | refine zqv ?_ | refine zqz ?_ | refine zqp ?_ | refine zqu (by (simp (disch := omega) only [go_sem]); rfl) rfl ?_ | (refine J _ ?_; clear J K))
     have hk2 : k = r.length := by omega
     subst hk2
     rw [List.take_length] at tp1
     rw [goT, <- tp1]
     cases nn with
     | false => exact z02 (z1b L) (Le.refl _)
     | true => exact z02 (z1b L) Le.rsl
   ·have hft : z16 u s = (z08 u).filter (atB s) := if_neg hb
    rw [Bool.not_eq_true] at hb
    rw [hb] at c2
    refine z51 fun K J => ?_
    (simp (disch := omega) only [go_sem, Nat.reduceAdd])
    refine J _ _ (zrz (b := 2) (e := 25) 27 (by (simp (disch := omega) only [go_sem, Nat.reduceBEq]))) ?_
    clear J K
    repeat' (first | ((first | refine z01 (N := 4) rfl fun K J => ?_ | refine zqs (c2) ?_); (simp (disch := omega) only [go_sem, Nat.reduceBEq, ↓reduceIte, reduceCtorEq, Nat.reduceAdd, List.map_cons, List.length_cons, zf9])) | ((refine zqm _ rfl (fun hc => ?_) (fun hc => ?_)) <;> (first | (cases hc; done) | ((try simp only [decide_eq_false_iff_not] at hc); (try (exfalso; omega))))) | refine zqa ?_ | (refine J _ ?_; clear J K))
    repeat' (((refine zqr fun K J => ?_); (simp (disch := omega) only [go_sem, Nat.reduceBEq, ↓reduceIte, Nat.reduceAdd, Nat.reduceLeDiff])))
    have h := zvi (g := 104) (cap := [.ptr 1 0, .ptr 2 0]) (fun x l => addF s x l) (low_F u (s :: r)) List.length (z08 u).length (fun x l => by unfold addF; split <;> simp) u (sz_fit u hs) (fun x _ l hl => zob u x s r l (by omega)) [] (by simp)
    rw [zj5, List.nil_append, <- hft] at h
    refine ze5 h (Nat.le_refl _) (fun j hj => ?_) fun H1 hs1 _ => ?_
    ·match j, hj with
     | 0, _ => rfl
     | 1, _ => rfl
     | 2, _ => rfl
     | 3, _ => rfl
    have h1 : H1 1 = some (.box 28 [z0a (s :: r)]) := hs1 1 (by omega)
    have h2 : H1 2 = some (.box 25 [.osl 3 (z16 u s).length]) := hs1 2 (by omega)
    have h3 : H1 3 = some (.row 27 (z16 u s).length ((z16 u s).flatMap z05)) := hs1 3 (by omega)
    clear h hs1
    (simp (disch := omega) only [go_sem])
    refine J _ ?_
    clear J K
    repeat' (first | refine zqj ?_ | refine zqv ?_ | refine zqy ?_)
    refine z51 fun K J => ?_
    (try (simp (disch := omega) only [go_sem, Nat.reduceBEq, ↓reduceIte, reduceCtorEq, Nat.reduceAdd, Int.reduceLE, h1, z0a, List.map_cons, List.length_cons])); repeat' skip
    refine J _ _ (z9y (P := Tryz.prog) (id := 3) (e := 27) (k := (z16 u s).length) (cs := (z16 u s).flatMap z05) (by (simp (disch := omega) only [go_sem, h3])) (by decide +kernel) (z40 _)) ?_
    clear J K
    have g0 : z1f true 8 (z16 u s).length ((z16 u s).flatMap z05) = (z16 u s).map z1a := z3b _ _ rfl
    repeat' (refine zqa ?_)
    (refine z35 (fun U st => ∃ (k : _) (L : List T) (nn : Bool), U = r.length - k /\ st.t 5 = .ptr 2 0 /\ st.t 33 = .rsl false 2 (r.map z7n) /\ st.t 34 = .int .i64 r.length /\ st.t 35 = .int .i64 k /\ st.H 2 = some (.box 25 [.rsl nn 8 (L.map z1a)]) /\ (k <= r.length) /\ (L = (r.take k).foldl z1s (z16 u s)) /\ (3 <= st.nx)) ?_ ?_); rotate_left; (rintro U st ⟨k, L, nn, rfl, t5, t33, t34, t35, tH2, tp0, tp1, tp2⟩); rotate_left
    ·(refine ⟨_, 0, z16 u s, false, rfl, ?_⟩); (simp (disch := omega) only [go_sem, Nat.reduceBEq, Nat.reduceLeDiff, true_and, and_true, Int.natCast_add, Int.natCast_one, Int.natCast_zero, List.map_nil, g0, h2, Option.map_some])
     exact ⟨rfl, rfl, rfl⟩
    have hLw : z8s L <= 1210000 := by rw [tp1]; exact z6x _ _ (z6w hc0)
    by_cases hk : k < r.length
    ·obtain ⟨sk, hsk⟩ : ∃ sk, sk = r[k]'hk := ⟨_, rfl⟩
     have hLn : (z1s L sk).length <= 1210000 := Nat.le_trans (z5i _) (Nat.le_trans (z8t _ _) hLw)
     have hLl : L.length <= 1210000 := Nat.le_trans (z5i _) hLw
     have hLm : ∀ x ∈ L, x ∈ z08 u := by rw [tp1]; exact z9a _ _ z8u
     repeat' (first | refine zqj ?_ | ((refine zqh fun K J => ?_); (simp (disch := omega) only [go_sem, Nat.reduceBEq, ↓reduceIte, reduceCtorEq, Nat.reduceAdd, Nat.reduceLeDiff, t5, t33, t34, t35, tH2, <- hsk])) | ((refine zqd _ rfl (fun hc => ?_) (fun hc => ?_)) <;> (((try simp only [z03] at hc); (try (exfalso; omega))))) | refine zqa ?_ | refine zqb ?_ | (refine J _ ?_; clear J K))
     (refine z35 (fun U st => ∃ (i : _) (a : Nat) (m : Nat), U = L.length - i /\ st.t 5 = .ptr 2 0 /\ st.t 33 = .rsl false 2 (r.map z7n) /\ st.t 34 = .int .i64 r.length /\ st.t 35 = .int .i64 k /\ st.t 7 = .ptr a 0 /\ st.t 8 = .osl m ((L.take i).flatMap (fun x => x.kids.filter (atB sk))).length /\ st.t 39 = .rsl nn 8 (L.map z1a) /\ st.t 40 = .int .i64 L.length /\ st.t 41 = .int .i64 i /\ st.H 2 = some (.box 25 [.rsl nn 8 (L.map z1a)]) /\ st.H (a) = some (.box 59 (z62 sk)) /\ st.H (m) = some (.row 27 ((L.take i).flatMap (fun x => x.kids.filter (atB sk))).length (((L.take i).flatMap (fun x => x.kids.filter (atB sk))).flatMap z05)) /\ (i <= L.length) /\ (2 < a) /\ (2 < m) /\ (¬ a = m) /\ (a < st.nx) /\ (m < st.nx)) ?_ ?_); rotate_left; (rintro U st ⟨i, a, m, rfl, v5, v33, v34, v35, v7, v8, v39, v40, v41, vH2, vHa, vHm, vp0, vp1, vp2, vp3, vp4, vp5⟩); rotate_left
     ·(refine ⟨_, 0, st.nx, st.nx + 1, rfl, ?_⟩); (simp (disch := omega) only [go_sem, Nat.reduceBEq, t5, t33, t34, t35, tH2, true_and, Int.natCast_zero, List.flatMap_nil, z62])
      exact ⟨by omega, by omega, by omega⟩
     have h2m : (2 == m) = false := by simp; omega
     have hm2 : (m == 2) = false := by simp; omega
     have ham : (a == m) = false := by simp; omega
     by_cases hi : i < L.length
     ·have hkl : L[i].kids.length <= 1000000 := (z5y (z72 u hs _ (hLm _ (List.getElem_mem hi)))).1
      repeat' (first | ((refine zqh fun K J => ?_); (simp (disch := omega) only [go_sem, Nat.reduceBEq, ↓reduceIte, reduceCtorEq, Nat.reduceAdd, Nat.reduceLeDiff, v39, v40, v41, z0e])) | ((refine zqd _ rfl (fun hc => ?_) (fun hc => ?_)) <;> (((try simp only [z03] at hc); (try (exfalso; omega))))) | refine zqa ?_ | refine zqi ?_ | refine zqb ?_ | (refine J _ ?_; clear J K))
      (refine z35 (fun U st => ∃ (j : _) (b : Nat), U = L[i].kids.length - j /\ st.t 5 = .ptr 2 0 /\ st.t 33 = .rsl false 2 (r.map z7n) /\ st.t 34 = .int .i64 r.length /\ st.t 35 = .int .i64 k /\ st.t 7 = .ptr a 0 /\ st.t 8 = .osl m ((L.take i).flatMap (fun x => x.kids.filter (atB sk)) ++ (L[i].kids.take j).filter (atB sk)).length /\ st.t 39 = .rsl nn 8 (L.map z1a) /\ st.t 40 = .int .i64 L.length /\ st.t 41 = .int .i64 i /\ st.t 46 = z0e L[i].kids /\ st.t 47 = .int .i64 L[i].kids.length /\ st.t 48 = .int .i64 j /\ st.H 2 = some (.box 25 [.rsl nn 8 (L.map z1a)]) /\ st.H (a) = some (.box 59 (z62 sk)) /\ st.H (m) = some (.row 27 ((L.take i).flatMap (fun x => x.kids.filter (atB sk)) ++ (L[i].kids.take j).filter (atB sk)).length (((L.take i).flatMap (fun x => x.kids.filter (atB sk)) ++ (L[i].kids.take j).filter (atB sk)).flatMap z05)) /\ (j <= L[i].kids.length) /\ (2 < a) /\ (2 < m) /\ (¬ a = m) /\ (a < st.nx) /\ (m < st.nx) /\ (b = 0)) ?_ ?_); rotate_left; (rintro U st ⟨j, b, rfl, w5, w33, w34, w35, w7, w8, w39, w40, w41, w46, w47, w48, wH2, wHa, wHm, wp0, wp1, wp2, wp3, wp4, wp5, wp6⟩); rotate_left
      ·(refine ⟨_, 0, 0, rfl, ?_⟩); (simp (disch := omega) only [go_sem, Nat.reduceBEq, v5, v33, v34, v35, v7, v8, v39, v40, v41, vH2, vHa, vHm, true_and, and_true, and_self, Int.natCast_zero, List.append_nil, z0e, List.take_zero, List.filter_nil])
       exact ⟨by omega, by omega, by omega⟩
      have hpt := zb0 (s := sk) hi j
      rw [List.length_append] at hpt
      by_cases hj : j < L[i].kids.length
      ·have c5 := zeg L[i].kids[j] sk
       have htk := List.take_succ_eq_append_getElem hj
       repeat' (first | ((first | refine zqh fun K J => ?_ | refine zqr fun K J => ?_ | refine zqs (c5) ?_); (simp (disch := omega) only [go_sem, Nat.reduceBEq, ↓reduceIte, reduceCtorEq, Nat.reduceAdd, Nat.reduceMul, Nat.reduceLeDiff, w7, w8, w46, w47, w48, wHa, wHm, z0e, z62])) | ((first | refine zqd _ rfl (fun hc => ?_) (fun hc => ?_) | refine zqm _ rfl (fun hc => ?_) (fun hc => ?_)) <;> (((try simp only [z03] at hc); (try (exfalso; omega))))) | refine zqa ?_ | refine zqb ?_ | refine zqk ?_ | refine zqv ?_ | refine zqy ?_ | (refine J _ ?_; clear J K))
       ·have htf : (L[i].kids.take (j + 1)).filter (atB sk) = (L[i].kids.take j).filter (atB sk) ++ [L[i].kids[j]] := by
         rw [htk, List.filter_append, List.filter_cons, if_pos (by assumption)]; rfl
        (refine Exists.intro _ (And.intro ?_ ⟨j + 1, 0, rfl, ?_⟩)); rotate_left; (simp (disch := omega) only [go_sem, Nat.reduceBEq, w5, w33, w34, w35, w7, w8, w39, w40, w41, w46, w47, w48, wH2, wHa, wHm, true_and, and_true, and_self, Int.natCast_add, Int.natCast_one, List.flatMap_append, List.flatMap_cons, List.flatMap_nil, List.append_nil, htf, h2m, ham, List.length_append, List.length_cons, List.length_nil, Nat.add_assoc, List.append_assoc]); rotate_left
        ·omega
        ·repeat' (omega)
       ·have htf : (L[i].kids.take (j + 1)).filter (atB sk) = (L[i].kids.take j).filter (atB sk) := by
         rw [htk, List.filter_append, List.filter_cons, if_neg (by rw [‹atB sk L[i].kids[j] = false›]; simp), List.filter_nil, List.append_nil]
        (refine Exists.intro _ (And.intro ?_ ⟨j + 1, 0, rfl, ?_⟩)); rotate_left; (simp (disch := omega) only [go_sem, Nat.reduceBEq, w5, w33, w34, w35, w7, w8, w39, w40, w41, w46, w47, w48, wH2, wHa, wHm, true_and, and_true, and_self, Int.natCast_add, Int.natCast_one, List.flatMap_append, htf]); rotate_left
        ·omega
        ·repeat' (omega)
      ·repeat' (first | ((first | refine zqh fun K J => ?_ | refine zqr fun K J => ?_); (simp (disch := omega) only [go_sem, Nat.reduceBEq, ↓reduceIte, w41, w47, w48])) | ((refine zqd _ rfl (fun hc => ?_) (fun hc => ?_)) <;> (((try simp only [z03] at hc); (try (exfalso; omega))))) | refine zqc ?_ | refine zqv ?_ | refine zqy ?_ | refine zqz ?_ | refine zqp ?_ | (refine J _ ?_; clear J K))
       have hj2 : L[i].kids.take j = L[i].kids := List.take_of_length_le (by omega)
       have htk : (L.take (i + 1)).flatMap (fun x => x.kids.filter (atB sk)) = (L.take i).flatMap (fun x => x.kids.filter (atB sk)) ++ L[i].kids.filter (atB sk) := by
        rw [List.take_succ_eq_append_getElem hi, List.flatMap_append, List.flatMap_cons, List.flatMap_nil, List.append_nil]
       rw [hj2, <- htk] at w8 wHm
       (refine Exists.intro _ (And.intro ?_ ⟨i + 1, a, m, rfl, ?_⟩)); rotate_left; (simp (disch := omega) only [go_sem, Nat.reduceBEq, w5, w33, w34, w35, w7, w8, w39, w40, w41, wH2, wHa, wHm, true_and, Int.natCast_add, Int.natCast_one]); rotate_left
       ·omega
       ·repeat' (omega)
     ·skip
      repeat' (first | ((refine z01 (N := 23) rfl fun K J => ?_); (simp (disch := omega) only [go_sem, ↓reduceIte, v40, v41])) | ((refine zqd _ rfl (fun hc => ?_) (fun hc => ?_)) <;> (((try simp only [z03] at hc); (try (exfalso; omega))))) | refine zqc ?_ | refine zqv ?_ | refine zqz ?_ | refine zqp ?_ | (refine J _ ?_; clear J K))
      have hi2 : L.take i = L := List.take_of_length_le (by omega)
      have hnx : (r.take (k + 1)).foldl z1s (z16 u s) = z1s L sk := by
       rw [tp1, List.take_succ_eq_append_getElem (by omega), List.foldl_append, hsk]; rfl
      rw [hi2] at v8 vHm
      have hnt : L.flatMap (fun x => x.kids.filter (atB sk)) = z1s L sk := rfl
      rw [hnt] at v8 vHm
      have g1 : z1f true 8 (z1s L sk).length ((z1s L sk).flatMap z05) = (z1s L sk).map z1a := z3b _ _ rfl
      refine zqr fun K J => ?_
      (simp (disch := omega) only [go_sem, Nat.reduceBEq, ↓reduceIte, Nat.reduceLeDiff, Nat.reduceLT, v5, v8, vH2])
      refine J _ ?_
      clear J K
      refine zqy (zam _ (z9y (P := Tryz.prog) (id := m) (e := 27) (k := (z1s L sk).length) (cs := (z1s L sk).flatMap z05) (by (simp (disch := omega) only [go_sem, vHm, hm2])) (by decide +kernel) (z40 _)) ?_)
      repeat' (first | ((refine zqr fun K J => ?_); (simp (disch := omega) only [go_sem, Nat.reduceBEq, ↓reduceIte, v35, g1])) | (refine J _ ?_; clear J K))
      (refine Exists.intro _ (And.intro ?_ ⟨k + 1, z1s L sk, false, rfl, ?_⟩)); rotate_left; (simp (disch := omega) only [go_sem, Nat.reduceBEq, v5, v33, v34, v35, vH2, true_and, Int.natCast_add, Int.natCast_one, List.map_cons, List.map_nil, g1, h2m]); rotate_left
      ·omega
      ·exact ⟨by omega, hnx.symm, by omega⟩
    ·skip
     repeat' (first | ((refine zqh fun K J => ?_); (simp (disch := omega) only [go_sem, Nat.reduceBEq, ↓reduceIte, Nat.reduceAdd, t5, t34, t35, tH2])) | ((refine zqd _ rfl (fun hc => ?_) (fun hc => ?_)) <;> (((try simp only [z03] at hc); (try (exfalso; omega))))) | refine zqc ?_ | refine zqn ?_ | refine zqv ?_ | refine zqz ?_ | refine zqp ?_ | refine zqu (by (simp (disch := omega) only [go_sem]); rfl) rfl ?_ | (refine J _ ?_; clear J K))
     have hk2 : k = r.length := by omega
     subst hk2
     rw [List.take_length] at tp1
     rw [goT, <- tp1]
     cases nn with
     | false => exact z02 (z1b L) (Le.refl _)
     | true => exact z02 (z1b L) Le.rsl

 ·rw [Bool.not_eq_true] at hv
  rw [hv] at c1
  unfold z2k
  rw [if_neg (by rw [hv]; simp)]
  repeat' (first | refine zqj ?_ | ((first | refine zqh fun K J => ?_ | refine zqs (c1) ?_); (simp (disch := omega) only [go_sem, Nat.reduceBEq, ↓reduceIte, Nat.reduceAdd, z0a])) | ((refine zqd _ rfl (fun hc => ?_) (fun hc => ?_)) <;> (first | (cases hc; done) | ((try simp only [] at hc); (try (exfalso; omega))))) | refine zqg ?_ | refine zqu (by (simp (disch := omega) only [go_sem]); rfl) rfl ?_ | (refine J _ ?_; clear J K))
  exact z02 rfl (Le.nil 8)
theorem zkc (u : T) (hs : szB u = true) (hc : cntT u <= 1100) (p : List Stp) (hl : p.length <= maxLen) (hps : ∀ s ∈ p, s.label.size <= maxLen) : PC Tryz.prog 60 [z1a u, z0a p] (z2f (z4d u p)) := by
 have c1 := zuk u hs hc p hl hps
 have hn := zjz (u := u) (p := p) hc
 refine z1v 2 (by simp only [pureD.pureL, z04, z0z, Bool.and_self]) (z4k _) (z1t [5] Tryz.func60 rfl (by decide +kernel) z0k (by decide +kernel) (by simp [Tryz.ntmps60]) ?_)
 show awp _ _ (Code.seq _ _) _ _
 repeat' (first | refine zqj ?_ | ((first | refine zqh fun K J => ?_ | refine zqs (c1) ?_); (simp (disch := omega) only [go_sem, Nat.reduceBEq, ↓reduceIte, Nat.reduceAdd, Nat.reduceLeDiff])) | refine zqa ?_ | (refine J _ ?_; clear J K))
 (refine z35 (fun U st => ∃ (k : _), U = (z2k u p).length - k /\ st.t 5 = .osl 1 k /\ st.t 10 = z0e (z2k u p) /\ st.t 11 = .int .i64 (z2k u p).length /\ st.t 12 = .int .i64 k /\ st.H 1 = some (.row 23 k ((((z2k u p).take k).map T.id).flatMap z07)) /\ (k <= (z2k u p).length) /\ (2 <= st.nx)) ?_ ?_); rotate_left; (rintro U st ⟨k, rfl, q5, q10, q11, q12, qH1, qp0, qp1⟩); rotate_left
 ·(refine ⟨_, 0, rfl, ?_⟩); (simp (disch := omega) only [go_sem, Nat.reduceBEq, Nat.reduceLeDiff, and_self, Int.natCast_zero, List.flatMap_nil, List.map_nil, z0e])
  try simp
 by_cases hk : k < (z2k u p).length
 ·have htk := List.take_succ_eq_append_getElem hk
  repeat' (first | ((first | refine zqh fun K J => ?_ | refine zqr fun K J => ?_); (simp (disch := omega) only [go_sem, Nat.reduceBEq, ↓reduceIte, reduceCtorEq, Nat.reduceAdd, Nat.reduceMul, Nat.reduceLeDiff, q5, q10, q11, q12, qH1, z0e])) | ((refine zqd _ rfl (fun hc => ?_) (fun hc => ?_)) <;> (((try simp only [z03] at hc); (try (exfalso; omega))))) | refine zqa ?_ | refine zqb ?_ | refine zqv ?_ | refine zqy ?_ | (refine J _ ?_; clear J K))
  (refine Exists.intro _ (And.intro ?_ ⟨k + 1, rfl, ?_⟩)); rotate_left; (simp (disch := omega) only [go_sem, Nat.reduceBEq, Nat.reduceLeDiff, q5, q10, q11, q12, qH1, true_and, Int.natCast_add, Int.natCast_one, List.flatMap_append, List.flatMap_cons, List.flatMap_nil, List.map_append, List.map_cons, List.map_nil, List.append_nil, htk, z07]); rotate_left
  ·omega
  ·omega
 ·repeat' (first | ((refine zqh fun K J => ?_); (simp (disch := omega) only [go_sem, Nat.reduceBEq, ↓reduceIte, q5, q11, q12])) | ((refine zqd _ rfl (fun hc => ?_) (fun hc => ?_)) <;> (((try simp only [z03] at hc); (try (exfalso; omega))))) | refine zqc ?_ | refine zqn ?_ | refine zqv ?_ | refine zqz ?_ | refine zqp ?_ | refine zqu (by (simp (disch := omega) only [go_sem]); rfl) rfl ?_ | (refine J _ ?_; clear J K))
  have hk2 : k = (z2k u p).length := by omega
  subst hk2
  rw [List.take_length] at qH1
  have hl2 : (z2k u p).length = ((z2k u p).map T.id).length := by simp
  rw [hl2] at qH1 ⊢
  exact z50 (z1z (l := (z2k u p).map T.id) 0 qH1 z63 z9p (fun _ => rfl) (fun _ => rfl))
theorem z9s (u : T) (hs : szB u = true) (hc : cntT u <= 1100) (p : List Stp) (hl : p.length <= maxLen) (hps : ∀ s ∈ p, s.label.size <= maxLen) : PC Tryz.prog 31 [z1a u, z0a p] (.tup [z41 (z2q u p).1, .int .i64 (z2q u p).2]) := by
 have c1 := zkc u hs hc p hl hps
 refine z1v 3 (by simp only [pureD.pureL, z04, z0z, Bool.and_self]) rfl (z1t [] Tryz.func31 rfl (by decide +kernel) z0k (by decide +kernel) (by simp [Tryz.ntmps31]) ?_)
 show awp _ _ (Code.seq _ _) _ _
 rw [show Tryz.f31.results.toList = [.cell 4 23, .tmp 5] from rfl]
 have hz : Int.toNat 0 = 0 := rfl
 rcases Nat.lt_trichotomy (z4d u p).length 1 with h | h | h
 ·have h0 : z4d u p = [] := List.eq_nil_of_length_eq_zero (by omega)
  rw [zt8 h0]
  rw [h0] at c1
  repeat' (first | refine zqj ?_ | ((first | refine zqh fun K J => ?_ | refine zqs (c1) ?_); (simp (disch := omega) only [go_sem, Nat.reduceBEq, ↓reduceIte, Nat.reduceAdd, Nat.reduceLeDiff, z2f])) | ((refine zqm _ rfl (fun hc => ?_) (fun hc => ?_)) <;> (first | (cases hc; done) | ((try simp only [decide_eq_true_eq] at hc); (try (exfalso; omega))))) | refine zqa ?_ | refine zqn ?_ | refine zqx ?_ | refine z4f ?_ | refine zqu (by (simp (disch := omega) only [go_sem, Nat.reduceBEq, ↓reduceIte, Nat.reduceAdd, Nat.reduceLeDiff]); rfl) rfl ?_ | (refine J _ ?_; clear J K))
  exact z02 rfl (Le.refl _)
 ·rw [zt9 h]
  obtain ⟨i, hi⟩ : ∃ i, z4d u p = [i] := List.length_eq_one_iff.1 h
  have hg : (z4d u p)[0]'(by omega) = i := by simp only [hi, List.getElem_cons_zero]
  rw [hg]
  rw [hi] at c1
  repeat' (first | refine zqj ?_ | ((first | refine zqh fun K J => ?_ | refine zqs (c1) ?_); (simp (disch := omega) only [go_sem, Nat.reduceBEq, ↓reduceIte, reduceCtorEq, Nat.reduceAdd, Nat.reduceLeDiff, z2f, zf9, List.map_cons, List.map_nil])) | ((refine zqm _ rfl (fun hc => ?_) (fun hc => ?_)) <;> (first | (cases hc; done) | ((try simp only [z03] at hc); (try (exfalso; omega))))) | refine zqa ?_ | refine zqn ?_ | refine zqx ?_ | refine z4f ?_ | refine zqu (by (simp (disch := omega) only [go_sem, Nat.reduceBEq, ↓reduceIte, Nat.reduceAdd, Nat.reduceLeDiff]); rfl) rfl ?_ | (refine J _ ?_; clear J K))
  exact z02 rfl (Le.refl _)
 ·rw [zta h]
  have hne : ¬ (z4d u p).length = 0 := by omega
  repeat' (first | refine zqj ?_ | ((first | refine zqh fun K J => ?_ | refine zqs (c1) ?_); (simp (disch := omega) only [go_sem, Nat.reduceBEq, ↓reduceIte, Nat.reduceAdd, Nat.reduceLeDiff, z2f])) | ((refine zqm _ rfl (fun hc => ?_) (fun hc => ?_)) <;> (((try simp only [z03] at hc); (try (exfalso; omega))))) | refine zqa ?_ | refine zqk ?_ | refine zqn ?_ | refine zqv ?_ | refine zqy ?_ | refine zqu (by (simp (disch := omega) only [go_sem, Nat.reduceBEq, ↓reduceIte, Nat.reduceAdd, Nat.reduceLeDiff]); rfl) rfl ?_ | (refine J _ ?_; clear J K))
  exact z02 rfl (Le.refl _)
def whB (w : Int) : Bool := decide (0 <= w /\ w <= 3)
theorem zfe (w : Int) : PC Tryz.prog 30 [.int .i64 w] (.bool (whB w)) := by
 refine z1v 1 rfl rfl (z1t [] Tryz.func30 rfl (by decide +kernel) z0k (by decide +kernel) (by simp [Tryz.ntmps30]) ?_)
 show awp _ _ (Code.seq _ _) _ _
 repeat' (first | ((refine zqh fun K J => ?_); (simp (disch := omega) only [go_sem, Nat.reduceBEq, ↓reduceIte])) | refine zqn ?_ | refine zqu (by (simp (disch := omega) only [go_sem]); rfl) rfl ?_ | (refine J _ ?_; clear J K) | (refine zqf (fun hb => ?_) (fun hb => ?_) <;> (have hb2 := hb; try simp only [z03] at hb2) <;> ((first | have F := eq_false hb2 | have F := eq_true hb2); (simp (disch := omega) only [go_sem, Nat.reduceBEq, ↓reduceIte, F]); clear hb F; (try (exfalso; omega)))))
 all_goals first | exact z00 (decide_eq_true (by omega)).symm | exact z00 (decide_eq_false (by omega)).symm | exact z00 (decide_eq_decide.2 (by omega))
def z5p (s : Idv × Int) : List D := z07 s.1 ++ [.int .i64 s.2]
def zdb (s : Idv × Int) : D := .agg (z5p s)
def z7t (r : (Idv × Int) × Int) : D := .tup [zdb r.1, .int .i64 r.2]
theorem zht (u : T) (hs : szB u = true) (hd : depT u <= 1000000) (id : Idv) (k : Int) (hk : 0 <= k /\ k <= 1) :
  PC Tryz.prog 87 [z1a u, z41 id, .int .i64 k] (z7t (if (z31 id u).2.2 = true then (((z31 id u).1, (z31 id u).2.1 + k), 0) else ((Idv.zero, 0), 9))) := by
 have c1 := zhh u (zpk u hs) (by omega) id
 refine z1v 3 (by simp only [pureD.pureL, z04, pureD, Bool.and_self]; rfl) (by split <;> rfl) (z1t [] Tryz.func87 rfl (by decide +kernel) z0k (by decide +kernel) (by simp [Tryz.ntmps87]) ?_)
 show awp _ _ (Code.seq _ _) _ _
 rw [show Tryz.f87.results.toList = [.cell 6 73, .tmp 7] from rfl]
 have hb : -1 <= (z31 id u).2.1 /\ (z31 id u).2.1 <= 1000000 := by
  unfold z31
  simp only
  split
  ·exact ⟨by simp only; omega, by simp only; omega⟩
  ·rename_i h
   have hw := z9o id u _ (List.getElem_mem (l := z1i id u) (n := (z1i id u).length - 2) (by omega))
   have hz := (z5y (z72 u hs _ hw)).1
   simp only
   split <;> omega
 cases ho : (z31 id u).2.2 with
 | true =>
  rw [ho] at c1
  repeat' (first | refine zqj ?_ | ((first | refine zqh fun K J => ?_ | refine zqs (c1) ?_); (simp (disch := omega) only [go_sem, Nat.reduceBEq, ↓reduceIte, Nat.reduceAdd, Nat.reduceLeDiff])) | ((refine zqd _ rfl (fun hc => ?_) (fun hc => ?_)) <;> (first | (cases hc; done) | ((try simp only [] at hc); (try (exfalso; omega))))) | refine zqb ?_ | refine zqn ?_ | refine zqu (by (simp (disch := omega) only [go_sem, Nat.reduceBEq, ↓reduceIte, Nat.reduceAdd, Nat.reduceLeDiff]); rfl) rfl ?_ | (refine J _ ?_; clear J K))
  exact z02 rfl (Le.refl _)
 | false =>
  rw [ho] at c1
  repeat' (first | refine zqj ?_ | ((first | refine zqh fun K J => ?_ | refine zqs (c1) ?_); (simp (disch := omega) only [go_sem, Nat.reduceBEq, ↓reduceIte, Nat.reduceAdd, Nat.reduceLeDiff])) | ((refine zqd _ rfl (fun hc => ?_) (fun hc => ?_)) <;> (first | (cases hc; done) | ((try simp only [] at hc); (try (exfalso; omega))))) | refine zqg ?_ | refine zqu (by (simp (disch := omega) only [go_sem, Nat.reduceBEq, ↓reduceIte, Nat.reduceAdd, Nat.reduceLeDiff]); rfl) rfl ?_ | (refine J _ ?_; clear J K))
  exact z02 rfl (Le.refl _)
theorem zps (u : T) (hs : szB u = true) (hd : depT u <= 1000000) (id : Idv) {g : FuncId} (n : Int) (hg : PC Tryz.prog g [.int .i64 ((z0b id u).1.kids.length : Nat)] (.int .i64 n)) :
  PC Tryz.prog 82 [z1a u, z41 id, .fn g []] (z7t ((id, n), 0)) := by
 have c1 := zx3 u (zpk u hs) (by omega) id
 refine z1v 3 (by simp only [pureD.pureL, z04, pureD, Bool.and_self]; rfl) rfl (z1t [3000019, 5000021] Tryz.func82 rfl (by decide +kernel) z0k (by decide +kernel) (by simp [Tryz.ntmps82]) ?_)
 show awp _ _ (Code.seq _ _) _ _
 rw [show Tryz.f82.results.toList = [.cell 6 73, .tmp 7] from rfl]
 repeat' (first | ((first | refine zqh fun K J => ?_ | refine zqe (by decide +kernel) fun K J => ?_ | refine zqs (c1) ?_ | refine zqt (hg) ?_); (simp (disch := omega) only [go_sem, Nat.reduceBEq, Nat.reduceEqDiff, ↓reduceIte, reduceCtorEq, Nat.reduceAdd, Nat.reduceLeDiff, Nat.reduceLT, z0e])) | refine zqn ?_ | refine zqu (by (simp (disch := omega) only [go_sem, Nat.reduceBEq, ↓reduceIte, Nat.reduceAdd, Nat.reduceLeDiff]); rfl) rfl ?_ | (refine J _ ?_; clear J K))
 exact z02 rfl (Le.refl _)
theorem pc_l11 (n : Int) : PC Tryz.prog 83 [.int .i64 n] (.int .i64 0) := by
 refine z1v 1 rfl rfl (z1t [] Tryz.func83 rfl (by decide +kernel) z0k (by decide +kernel) (by simp [Tryz.ntmps83]) ?_)
 show awp _ _ (Code.seq _ _) _ _
 repeat' (first | ((refine zqh fun K J => ?_); (simp (disch := omega) only [go_sem])) | refine zqn ?_ | refine zqu (by (simp (disch := omega) only [go_sem]); rfl) rfl ?_ | (refine J _ ?_; clear J K))
 exact z2w rfl
theorem pc_l21 (n : Int) : PC Tryz.prog 85 [.int .i64 n] (.int .i64 n) := by
 refine z1v 1 rfl rfl (z1t [] Tryz.func85 rfl (by decide +kernel) z0k (by decide +kernel) (by simp [Tryz.ntmps85]) ?_)
 show awp _ _ (Code.seq _ _) _ _
 repeat' (first | ((refine zqh fun K J => ?_); (simp (disch := omega) only [go_sem, Nat.reduceBEq])) | refine zqn ?_ | refine zqu (by (simp (disch := omega) only [go_sem]); rfl) rfl ?_ | (refine J _ ?_; clear J K))
 exact z2w rfl
theorem zu9 (u : T) (hs : szB u = true) (hd : depT u <= 1000000) (id : Idv) : PC Tryz.prog 81 [z1a u, z41 id] (z7t (z4h u id 0)) := by
 have c1 := zps u hs hd id 0 (pc_l11 _)
 refine z1v 3 (by simp only [pureD.pureL, z04]; rfl) rfl (z1t [] Tryz.func81 rfl (by decide +kernel) z0k (by decide +kernel) (by simp [Tryz.ntmps81]) ?_)
 show awp _ _ (Code.seq _ _) _ _
 rw [show Tryz.f81.results.toList = [.cell 4 73, .tmp 5] from rfl]
 unfold z7t zdb at c1
 repeat' (first | ((first | refine zqh fun K J => ?_ | refine zqs (c1) ?_); (simp (disch := omega) only [go_sem, Nat.reduceBEq, ↓reduceIte, Nat.reduceAdd, Nat.reduceLeDiff, z07, z5p, List.cons_append, List.nil_append])) | refine zqn ?_ | refine zqu (by (simp (disch := omega) only [go_sem, Nat.reduceBEq, ↓reduceIte, Nat.reduceAdd, Nat.reduceLeDiff]); rfl) rfl ?_ | (refine J _ ?_; clear J K))
 all_goals exact z02 rfl (Le.refl _)
theorem zua (u : T) (hs : szB u = true) (hd : depT u <= 1000000) (id : Idv) : PC Tryz.prog 84 [z1a u, z41 id] (z7t (z4h u id 1)) := by
 have c1 := zps u hs hd id _ (pc_l21 _)
 refine z1v 3 (by simp only [pureD.pureL, z04]; rfl) rfl (z1t [] Tryz.func84 rfl (by decide +kernel) z0k (by decide +kernel) (by simp [Tryz.ntmps84]) ?_)
 show awp _ _ (Code.seq _ _) _ _
 rw [show Tryz.f84.results.toList = [.cell 4 73, .tmp 5] from rfl]
 unfold z7t zdb at c1
 repeat' (first | ((first | refine zqh fun K J => ?_ | refine zqs (c1) ?_); (simp (disch := omega) only [go_sem, Nat.reduceBEq, ↓reduceIte, Nat.reduceAdd, Nat.reduceLeDiff, z07, z5p, List.cons_append, List.nil_append])) | refine zqn ?_ | refine zqu (by (simp (disch := omega) only [go_sem, Nat.reduceBEq, ↓reduceIte, Nat.reduceAdd, Nat.reduceLeDiff]); rfl) rfl ?_ | (refine J _ ?_; clear J K))
 all_goals exact z02 rfl (Le.refl _)
theorem zub (u : T) (hs : szB u = true) (hd : depT u <= 1000000) (id : Idv) : PC Tryz.prog 86 [z1a u, z41 id] (z7t (z4h u id 2)) := by
 have c1 := zht u hs hd id 1 (by decide)
 refine z1v 3 (by simp only [pureD.pureL, z04]; rfl) rfl (z1t [] Tryz.func86 rfl (by decide +kernel) z0k (by decide +kernel) (by simp [Tryz.ntmps86]) ?_)
 show awp _ _ (Code.seq _ _) _ _
 rw [show Tryz.f86.results.toList = [.cell 4 73, .tmp 5] from rfl]
 unfold z7t zdb at c1
 repeat' (first | ((first | refine zqh fun K J => ?_ | refine zqs (c1) ?_); (simp (disch := omega) only [go_sem, Nat.reduceBEq, ↓reduceIte, Nat.reduceAdd, Nat.reduceLeDiff, z07, z5p, List.cons_append, List.nil_append])) | refine zqn ?_ | refine zqu (by (simp (disch := omega) only [go_sem, Nat.reduceBEq, ↓reduceIte, Nat.reduceAdd, Nat.reduceLeDiff]); rfl) rfl ?_ | (refine J _ ?_; clear J K))
 all_goals exact z02 rfl (Le.refl _)
theorem zuc (u : T) (hs : szB u = true) (hd : depT u <= 1000000) (id : Idv) : PC Tryz.prog 88 [z1a u, z41 id] (z7t (z4h u id 3)) := by
 have c1 := zht u hs hd id 0 (by decide)
 refine z1v 3 (by simp only [pureD.pureL, z04]; rfl) rfl (z1t [] Tryz.func88 rfl (by decide +kernel) z0k (by decide +kernel) (by simp [Tryz.ntmps88]) ?_)
 show awp _ _ (Code.seq _ _) _ _
 rw [show Tryz.f88.results.toList = [.cell 4 73, .tmp 5] from rfl]
 unfold z7t zdb at c1
 repeat' (first | ((first | refine zqh fun K J => ?_ | refine zqs (c1) ?_); (simp (disch := omega) only [go_sem, Nat.reduceBEq, ↓reduceIte, Nat.reduceAdd, Nat.reduceLeDiff, z07, z5p, List.cons_append, List.nil_append])) | refine zqn ?_ | refine zqu (by (simp (disch := omega) only [go_sem, Nat.reduceBEq, ↓reduceIte, Nat.reduceAdd, Nat.reduceLeDiff]); rfl) rfl ?_ | (refine J _ ?_; clear J K))
 all_goals exact z02 rfl (Le.refl _)
theorem zlu : PC Tryz.prog 59 [] (.agg [.fn 81 [], .fn 84 [], .fn 86 [], .fn 88 []]) := by
 refine z1v 3 rfl rfl (z1t [] Tryz.func59 rfl (by decide +kernel) z0k (by decide +kernel) (by simp [Tryz.ntmps59]) ?_)
 show awp _ _ (Code.seq _ _) _ _
 repeat' (first | ((refine zqh fun K J => ?_); (simp (disch := omega) only [go_sem, ↓reduceIte, reduceCtorEq, Nat.reduceAdd, Nat.reduceLeDiff])) | refine zqn ?_ | refine zqu (by (simp (disch := omega) only [go_sem, Nat.reduceAdd]); rfl) rfl ?_ | (refine J _ ?_; clear J K))
 exact z02 rfl (Le.refl _)
end
section
open Abs Facts Tr
attribute [local irreducible] awp
set_option maxRecDepth 100000
theorem zn5 (l : List Idv) (hl : l.length <= 1000000) (k : Idv) : PC Tryz.prog 93 [z2f l, z41 k] (.int .i64 (if z2e (fun x => decide (k = x)) l < l.length then (z2e (fun x => decide (k = x)) l : Int) else -1)) := by
 refine z1v 1 (by simp only [pureD.pureL, z4k]; rfl) rfl (z1t [] Tryz.func93 rfl (by decide +kernel) z0k (by decide +kernel) (by simp [Tryz.ntmps93]) ?_)
 show awp _ _ (Code.seq _ _) _ _
 repeat' (first | refine zqj ?_ | ((refine zqh fun K J => ?_); (simp (disch := omega) only [go_sem, Nat.reduceBEq, z2f])) | refine zqa ?_ | (refine J _ ?_; clear J K))
 (refine z35 (fun U st => ∃ (i : _), U = l.length - i /\ st.t 0 = z2f l /\ st.t 3 = .ptr 0 0 /\ st.t 7 = .int .i64 l.length /\ st.t 8 = .int .i64 i /\ st.H 0 = some (.box 23 (z07 k)) /\ (i <= l.length) /\ (∀ j, (hj : j < i) -> (h : j < l.length) -> decide (k = l[j]) = false)) ?_ ?_); rotate_left; (rintro U st ⟨i, rfl, q0, q3, q7, q8, qH0, qp0, qp1⟩); rotate_left
 ·(refine ⟨_, 0, rfl, ?_⟩); (simp (disch := omega) only [go_sem, Nat.reduceBEq, true_and, Int.natCast_zero, z2f, z07])
  intro j hj; omega
 repeat' (first | ((first | refine zqh fun K J => ?_ | refine zqe (by decide +kernel) fun K J => ?_ | refine zqr fun K J => ?_); (simp (disch := omega) only [go_sem, Nat.reduceBEq, ↓reduceIte, reduceCtorEq, Nat.reduceAdd, Nat.reduceLeDiff, q0, q3, q7, q8, qH0, z2f, z07])) | ((first | refine zqd _ rfl (fun hc => ?_) (fun hc => ?_) | refine zqm _ rfl (fun hc => ?_) (fun hc => ?_)) <;> (((try simp only [z03] at hc); (try (exfalso; omega))))) | refine zqa ?_ | refine zqb ?_ | refine zqc ?_ | refine zqk ?_ | refine zqn ?_ | refine zqv ?_ | refine zqx ?_ | refine zqy ?_ | refine zqz ?_ | refine z4f ?_ | refine zqp ?_ | refine zqo ?_ | refine zqu (by (simp (disch := omega) only [go_sem]); rfl) rfl ?_ | (refine J _ ?_; clear J K))
 ·refine z2w ?_
  have hf := z3t (f := fun x => decide (k = x)) (l := l) (k := i) (by omega) (fun j hj => qp1 j hj (by omega)) (fun h => decide_eq_true (by assumption))
  rw [hf, if_pos (by omega)]
 ·(refine Exists.intro _ (And.intro ?_ ⟨i + 1, rfl, ?_⟩)); rotate_left; (simp (disch := omega) only [go_sem, Nat.reduceBEq, q0, q3, q7, q8, qH0, true_and, Int.natCast_add, Int.natCast_one, z07]); rotate_left
  ·omega
  ·refine ⟨by omega, fun j hj h => ?_⟩
   by_cases e : j = i
   ·subst e; exact decide_eq_false (by assumption)
   ·exact qp1 j (by omega) h
 ·refine z2w ?_
  have hi : i = l.length := by omega
  subst hi
  have hf := z3t (f := fun x => decide (k = x)) (l := l) (k := l.length) (by omega) (fun j hj => qp1 j hj (by omega)) (fun h => by omega)
  rw [hf, if_neg (by omega)]
theorem zgl (l : List Idv) (hl : l.length <= 1000000) (k : Idv) : PC Tryz.prog 62 [z2f l, z41 k] (.bool (decide (k ∈ l))) := by
 have h := zn5 l hl k
 refine z1v 1 (by simp only [pureD.pureL, z4k]; rfl) rfl (z1t [] Tryz.func62 rfl (by decide +kernel) z0k (by decide +kernel) (by simp [Tryz.ntmps62]) ?_)
 show awp _ _ (Code.seq _ _) _ _
 have hlt := zh8 (fun x => decide (k = x)) l
 have hm : l.any (fun x => decide (k = x)) = decide (k ∈ l) := by
  rw [Bool.eq_iff_iff]; simp
 repeat' (first | ((first | refine zqh fun K J => ?_ | refine zqs (h) ?_); (simp (disch := omega) only [go_sem, Nat.reduceBEq, ↓reduceIte, Nat.reduceAdd, Nat.reduceLeDiff])) | refine zqn ?_ | refine zqu (by (simp (disch := omega) only [go_sem]); rfl) rfl ?_ | (refine J _ ?_; clear J K))
 refine z00 ?_
 rw [<- hm, <- hlt]
 by_cases h : z2e (fun x => decide (k = x)) l < l.length
 ·rw [if_pos h]; simp [h]
 ·rw [if_neg h]; simp [h]
def za3 (u : T) (p : List Stp) (w : Int) : (Idv × Int) × Int :=
 if whB w = false then ((Idv.zero, 0), 1) else if (z2q u p).2 = 0 then z4h u (z2q u p).1 w else ((Idv.zero, 0), (z2q u p).2)
def zu8 (r : (Idv × Int) × Int) : D := .tup [z41 r.1.1, .int .i64 r.1.2, .int .i64 r.2]
theorem zlt (u : T) (id : Idv) (w : Int) : (z4h u id w).2 = 0 \/ z4h u id w = ((Idv.zero, 0), 9) := by
 unfold z4h; split
 ·exact .inl rfl
 split
 ·exact .inl rfl
 split
 ·exact .inl rfl
 ·exact .inr rfl
def leadF (w : Int) : FuncId := if w = 0 then 81 else if w = 1 then 84 else if w = 2 then 86 else 88
theorem zpp (u : T) (hs : szB u = true) (hd : depT u <= 1000000) (id : Idv) (w : Int) (hw : 0 <= w /\ w <= 3) : PC Tryz.prog (leadF w) [z1a u, z41 id] (z7t (z4h u id w)) := by
 rcases wh4 hw with rfl | rfl | rfl | rfl
 ·exact zu9 u hs hd id
 ·exact zua u hs hd id
 ·exact zub u hs hd id
 ·exact zuc u hs hd id
theorem zpq (w : Int) (hw : 0 <= w /\ w <= 3) : ([D.fn 81 [], .fn 84 [], .fn 86 [], .fn 88 []] : List D)[w.toNat]? = some (.fn (leadF w) []) := by
 rcases wh4 hw with rfl | rfl | rfl | rfl <;> rfl
theorem zbc (u : T) (hs : szB u = true) (hc : cntT u <= 1100) (hd : depT u <= 1000000) (p : List Stp) (hl : p.length <= maxLen) (hps : ∀ s ∈ p, s.label.size <= maxLen) (w : Int) :
  PC Tryz.prog 29 [z1a u, z0a p, .int .i64 w] (zu8 (za3 u p w)) := by
 have c1 := zfe w
 have c2 := z9s u hs hc p hl hps
 have c3 := zlu
 refine z1v 3 (by simp only [pureD.pureL, z04, z0z, pureD, Bool.and_self]) rfl (z1t [5000027, 5000032, 3000030, 3000031, 600006, 900001, 600042, 900003, 600040, 900003] Tryz.func29 rfl (by decide +kernel) z0k (by decide +kernel) (by simp [Tryz.ntmps29]) ?_)
 show awp _ _ (Code.seq _ _) _ _
 rw [show Tryz.f29.results.toList = [.cell 6 23, .tmp 7, .tmp 8] from rfl]
 unfold za3
 by_cases hw : whB w = true
 ·rw [if_neg (by rw [hw]; simp)]
  rw [hw] at c1
  have hw4 : 0 <= w /\ w <= 3 := of_decide_eq_true hw
  by_cases he : (z2q u p).2 = 0
  ·rw [if_pos he]
   rw [he] at c2
   have c4 := zpp u hs hd (z2q u p).1 w hw4
   have hix := zpq w hw4
   rcases zlt u (z2q u p).1 w with h0 | h0
   ·generalize z4h u (z2q u p).1 w = r at *
    obtain ⟨⟨i, n⟩, e⟩ := r
    simp only at h0
    subst h0
    repeat' (first | refine zqj ?_ | ((first | refine zqh fun K J => ?_ | refine zqe (by decide +kernel) fun K J => ?_ | refine zqs (c1) ?_ | refine zqs (c2) ?_ | refine zqt (c3) ?_ | refine zqt (c4) ?_); (simp (disch := omega) only [go_sem, Nat.reduceBEq, Nat.reduceEqDiff, ↓reduceIte, reduceCtorEq, Nat.reduceAdd, Nat.reduceLeDiff, Nat.reduceLT, z07, z5p, zdb, z7t, List.cons_append, List.nil_append, hix])) | ((refine zqd _ rfl (fun hc => ?_) (fun hc => ?_)) <;> (first | (cases hc; done) | ((try simp only [] at hc); (try (exfalso; omega))))) | refine zqb ?_ | refine zqn ?_ | refine zqu (by (simp (disch := omega) only [go_sem, Nat.reduceBEq, ↓reduceIte, Nat.reduceAdd, Nat.reduceLeDiff]); rfl) rfl ?_ | (refine J _ ?_; clear J K))
    exact z02 rfl (Le.refl _)
   ·rw [h0] at c4 ⊢
    repeat' (first | refine zqj ?_ | ((first | refine zqh fun K J => ?_ | refine zqe (by decide +kernel) fun K J => ?_ | refine zqs (c1) ?_ | refine zqs (c2) ?_ | refine zqt (c3) ?_ | refine zqt (c4) ?_); (simp (disch := omega) only [go_sem, Nat.reduceBEq, Nat.reduceEqDiff, ↓reduceIte, reduceCtorEq, Nat.reduceAdd, Nat.reduceLeDiff, Nat.reduceLT, Int.reduceEq, z07, z5p, zdb, z7t, List.cons_append, List.nil_append, hix])) | ((refine zqd _ rfl (fun hc => ?_) (fun hc => ?_)) <;> (first | (cases hc; done) | ((try simp only [] at hc); (try (exfalso; omega))))) | refine zqb ?_ | refine zqg ?_ | refine zqu (by (simp (disch := omega) only [go_sem, Nat.reduceBEq, ↓reduceIte, Nat.reduceAdd, Nat.reduceLeDiff]); rfl) rfl ?_ | (refine J _ ?_; clear J K))
    exact z02 rfl (Le.refl _)
  ·rw [if_neg he]
   repeat' (first | refine zqj ?_ | ((first | refine zqh fun K J => ?_ | refine zqs (c1) ?_ | refine zqs (c2) ?_); (simp (disch := omega) only [go_sem, Nat.reduceBEq, ↓reduceIte, Nat.reduceAdd, Nat.reduceLeDiff])) | ((refine zqd _ rfl (fun hc => ?_) (fun hc => ?_)) <;> (first | (cases hc; done) | ((try simp only [z03] at hc); (try (exfalso; omega))))) | refine zqb ?_ | refine zqg ?_ | refine zqu (by (simp (disch := omega) only [go_sem, Nat.reduceBEq, ↓reduceIte, Nat.reduceAdd, Nat.reduceLeDiff]); rfl) rfl ?_ | (refine J _ ?_; clear J K))
   exact z02 rfl (Le.refl _)
 ·rw [Bool.not_eq_true] at hw
  rw [if_pos hw]
  rw [hw] at c1
  repeat' (first | refine zqj ?_ | ((first | refine zqh fun K J => ?_ | refine zqs (c1) ?_); (simp (disch := omega) only [go_sem, Nat.reduceBEq, ↓reduceIte, Nat.reduceAdd, Nat.reduceLeDiff])) | ((refine zqd _ rfl (fun hc => ?_) (fun hc => ?_)) <;> (first | (cases hc; done) | ((try simp only [] at hc); (try (exfalso; omega))))) | refine zqg ?_ | refine zqu (by (simp (disch := omega) only [go_sem, Nat.reduceBEq, ↓reduceIte, Nat.reduceAdd, Nat.reduceLeDiff]); rfl) rfl ?_ | (refine J _ ?_; clear J K))
  exact z02 rfl (Le.refl _)
theorem zpr (u : T) (hs : szB u = true) (id : Idv) (w : Int) : -1 <= (z4h u id w).1.2 /\ (z4h u id w).1.2 <= 1000001 := by
 have hb : -1 <= (z31 id u).2.1 /\ (z31 id u).2.1 <= 1000000 := by
  unfold z31
  simp only
  split
  ·exact ⟨by simp only; omega, by simp only; omega⟩
  ·rename_i h
   have hw := z9o id u _ (List.getElem_mem (l := z1i id u) (n := (z1i id u).length - 2) (by omega))
   have hz := (z5y (z72 u hs _ hw)).1
   simp only
   split <;> omega
 have hk := (z5y (zbd id u hs)).1
 unfold z4h
 split
 ·simp only; omega
 split
 ·simp only; omega
 split
 ·simp only; split <;> omega
 ·simp only; omega
def goV (to id : Idv) (w : Int) (anc : List Idv) (p : Idv × Int × Bool) (s : (Idv × Int) × Int) : (Idv × Int) × Int :=
 if p.2.2 = false \/ (¬ to = id /\ id ∈ anc) \/ (to = id /\ zav w = false) then ((Idv.zero, 0), 9) else
 if to = id then ((p.1, p.2.1), 0) else
 if s.2 = 0 /\ s.1.1 = p.1 /\ p.2.1 < s.1.2 then ((s.1.1, s.1.2 - 1), s.2) else s
section
variable {to id own i : Idv} {w n z e : Int} {anc : List Idv} {ok : Bool}
theorem goV_1 (h : ok = false) : goV to id w anc (own, n, ok) ((i, z), e) = ((Idv.zero, 0), 9) := if_pos (.inl h)
theorem goV_2 (h : ¬ to = id) (h2 : id ∈ anc) : goV to id w anc (own, n, ok) ((i, z), e) = ((Idv.zero, 0), 9) := if_pos (.inr (.inl ⟨h, h2⟩))
theorem goV_3 (h : to = id) (h2 : zav w = false) : goV to id w anc (own, n, ok) ((i, z), e) = ((Idv.zero, 0), 9) := if_pos (.inr (.inr ⟨h, h2⟩))
theorem goV_4 (h0 : ok = true) (h : to = id) (h2 : zav w = true) : goV to id w anc (own, n, ok) ((i, z), e) = ((own, n), 0) := by
 unfold goV; rw [if_neg (by simp [h0, h, h2]), if_pos h]
theorem goV_5 (h0 : ok = true) (h : ¬ to = id) (h2 : ¬ id ∈ anc) (h3 : e = 0) (h4 : i = own) (h5 : n < z) : goV to id w anc (own, n, ok) ((i, z), e) = ((i, z - 1), e) := by
 unfold goV; rw [if_neg (by simp [h0, h, h2]), if_neg h, if_pos ⟨h3, h4, h5⟩]
theorem goV_6 (h0 : ok = true) (h : ¬ to = id) (h2 : ¬ id ∈ anc) (h3 : ¬ e = 0 \/ ¬ i = own \/ ¬ n < z) : goV to id w anc (own, n, ok) ((i, z), e) = ((i, z), e) := by
 unfold goV; rw [if_neg (by simp [h0, h, h2]), if_neg h, if_neg (by rintro ⟨a, b, c⟩; rcases h3 with g | g | g; exact g a; exact g b; exact g c)]
end
theorem zxt (u : T) (hs : szB u = true) (hd : depT u <= 1000000) (id to : Idv) (w : Int) (hw : 0 <= w /\ w <= 3) :
  PC Tryz.prog 32 [z1a u, z41 id, z41 to, .int .i64 w] (z7t (zh1 u id to w)) := by
 have c1 := zhh u (zpk u hs) (by omega) id
 have c2 := zhi u (zpk u hs) (by omega) to
 have hal := zud to u
 have c3 := zgl (z54 to u) (by omega) id
 have c4 := zlu
 have c5 := zpp u hs hd to w hw
 have hix := zpq w hw
 have hsb := zpr u hs to w
 have hbes : zav w = decide (w = 2 \/ w = 3) := rfl
 refine z1v 3 (by simp only [pureD.pureL, z04, pureD, Bool.and_self]; rfl) rfl (z1t [5000062, 5000067, 3000065, 3000066] Tryz.func32 rfl (by decide +kernel) z0k (by decide +kernel) (by simp [Tryz.ntmps32]) ?_)
 show awp _ _ (Code.seq _ _) _ _
 rw [show Tryz.f32.results.toList = [.cell 8 73, .tmp 9] from rfl]
 rw [show zh1 u id to w = goV to id w (z54 to u) (z31 id u) (z4h u to w) from rfl]
 generalize hpr : z31 id u = pr at c1 ⊢
 obtain ⟨own, n, ok⟩ := pr
 generalize hlr : z4h u to w = lr at c5 hsb ⊢
 obtain ⟨⟨i, z⟩, e⟩ := lr
 simp only at c1 c5 hsb
 clear hpr hlr hal
 by_cases h2 : w = 2
 all_goals
  (repeat' (first | ((first | refine z01 (N := 3) rfl fun K J => ?_ | refine zqs (c1) ?_); (simp (disch := omega) only [go_sem, Nat.reduceBEq, ↓reduceIte, Nat.reduceAdd, Nat.reduceLeDiff, h2])) | (refine J _ ?_; clear J K)))
 ·have hb : zav w = true := by rw [hbes, h2]; rfl
  (refine z1e (fun st => st.t 3 = .int .i64 w /\ st.t 4 = .ptr 0 0 /\ st.t 5 = .ptr 1 0 /\ st.t 6 = .ptr 2 0 /\ st.t 8 = .ptr 3 0 /\ st.t 10 = .bool true /\ st.t 11 = .ptr 4 0 /\ st.t 12 = .int .i64 n /\ st.t 13 = .bool ok /\ st.H 0 = some (.box 27 (z05 u)) /\ st.H 1 = some (.box 23 (z07 id)) /\ st.H 2 = some (.box 23 (z07 to)) /\ st.H 3 = some (.box 73 [.int .i64 0, .int .i64 0, .int .i64 0, .int .i64 0]) /\ st.H 4 = some (.box 23 (z07 own)) /\ st.nx = 5) ?_ ?_); rotate_left; (rintro st ⟨p3, p4, p5, p6, p8, p10, p11, p12, p13, pH0, pH1, pH2, pH3, pH4, pnx⟩); rotate_left
  ·(simp (disch := omega) only [go_sem, Nat.reduceBEq, and_self, z07, h2])
  repeat' (first | refine zqj ?_ | ((first | refine zqh fun K J => ?_ | refine zqe (by decide +kernel) fun K J => ?_ | refine zqt (c2) ?_ | refine zqt (c3) ?_ | refine zqt (c4) ?_ | refine zqt (c5) ?_); (simp (disch := omega) only [go_sem, Nat.reduceBEq, Nat.reduceEqDiff, ↓reduceIte, reduceCtorEq, Nat.reduceAdd, Nat.reduceLeDiff, Nat.reduceLT, p3, p4, p5, p6, p8, p11, p12, p13, pH0, pH1, pH2, pH3, pH4, pnx, z07, z5p, zdb, z7t, List.cons_append, List.nil_append, hix])) | ((refine zqd _ rfl (fun hc => ?_) (fun hc => ?_)) <;> (first | (cases hc; done) | ((try simp only [z03] at hc); (try (exfalso; omega))))) | refine zqb ?_ | refine zqg ?_ | refine zqn ?_ | refine zqu (by (simp (disch := omega) only [go_sem, Nat.reduceBEq, ↓reduceIte, Nat.reduceAdd, Nat.reduceLeDiff, p8, pH3]); rfl) rfl ?_ | (refine J _ ?_; clear J K) | (refine zqf (fun hb => ?_) (fun hb => ?_) <;> (have hb2 := hb; try simp only [z03] at hb2) <;> ((first | have F : (_ : Bool) = _ := hb2 | have F := eq_false hb2 | have F := eq_true hb2); (simp (disch := omega) only [go_sem, Nat.reduceBEq, Nat.reduceEqDiff, ↓reduceIte, reduceCtorEq, Nat.reduceAdd, Nat.reduceLeDiff, F, p4, p5, p6, p10, p11, p12, pH0, pH1, pH2, pH4, pnx, z07]); clear hb F; (try (exfalso; omega)))))
  all_goals first
   | contradiction
   | (rw [goV_1 (by assumption)]; exact z02 rfl (Le.refl _))
   | (rw [goV_2 (by assumption) (by assumption)]; exact z02 rfl (Le.refl _))
   | (rw [goV_3 (by assumption) (by assumption)]; exact z02 rfl (Le.refl _))
   | (rw [goV_4 (by assumption) (by assumption) (by assumption)]; exact z02 rfl (Le.refl _))
   | (rw [goV_5 (by assumption) (by assumption) (by assumption) (by assumption) (by assumption) (by assumption)]; exact z02 rfl (Le.refl _))
   | (rw [goV_6 (by assumption) (by assumption) (by assumption) (by first | (left; assumption) | (right; left; assumption) | (right; right; assumption))]; exact z02 rfl (Le.refl _))
 ·have F : zav w = decide (w = 3) := by rw [hbes, decide_eq_decide]; omega
  (refine z1e (fun st => st.t 3 = .int .i64 w /\ st.t 4 = .ptr 0 0 /\ st.t 5 = .ptr 1 0 /\ st.t 6 = .ptr 2 0 /\ st.t 8 = .ptr 3 0 /\ st.t 10 = .bool (zav w) /\ st.t 11 = .ptr 4 0 /\ st.t 12 = .int .i64 n /\ st.t 13 = .bool ok /\ st.H 0 = some (.box 27 (z05 u)) /\ st.H 1 = some (.box 23 (z07 id)) /\ st.H 2 = some (.box 23 (z07 to)) /\ st.H 3 = some (.box 73 [.int .i64 0, .int .i64 0, .int .i64 0, .int .i64 0]) /\ st.H 4 = some (.box 23 (z07 own)) /\ st.nx = 5) ?_ ?_); rotate_left; (rintro st ⟨p3, p4, p5, p6, p8, p10, p11, p12, p13, pH0, pH1, pH2, pH3, pH4, pnx⟩); rotate_left
  ·(simp (disch := omega) only [go_sem, Nat.reduceBEq, and_self, z07, <- F])
  repeat' (first | refine zqj ?_ | ((first | refine zqh fun K J => ?_ | refine zqe (by decide +kernel) fun K J => ?_ | refine zqt (c2) ?_ | refine zqt (c3) ?_ | refine zqt (c4) ?_ | refine zqt (c5) ?_); (simp (disch := omega) only [go_sem, Nat.reduceBEq, Nat.reduceEqDiff, ↓reduceIte, reduceCtorEq, Nat.reduceAdd, Nat.reduceLeDiff, Nat.reduceLT, p3, p4, p5, p6, p8, p11, p12, p13, pH0, pH1, pH2, pH3, pH4, pnx, z07, z5p, zdb, z7t, List.cons_append, List.nil_append, hix])) | ((refine zqd _ rfl (fun hc => ?_) (fun hc => ?_)) <;> (first | (cases hc; done) | ((try simp only [z03] at hc); (try (exfalso; omega))))) | refine zqb ?_ | refine zqg ?_ | refine zqn ?_ | refine zqu (by (simp (disch := omega) only [go_sem, Nat.reduceBEq, ↓reduceIte, Nat.reduceAdd, Nat.reduceLeDiff, p8, pH3]); rfl) rfl ?_ | (refine J _ ?_; clear J K) | (refine zqf (fun hb => ?_) (fun hb => ?_) <;> (have hb2 := hb; try simp only [z03] at hb2) <;> ((first | have F : (_ : Bool) = _ := hb2 | have F := eq_false hb2 | have F := eq_true hb2); (simp (disch := omega) only [go_sem, Nat.reduceBEq, Nat.reduceEqDiff, ↓reduceIte, reduceCtorEq, Nat.reduceAdd, Nat.reduceLeDiff, F, p4, p5, p6, p10, p11, p12, pH0, pH1, pH2, pH4, pnx, z07]); clear hb F; (try (exfalso; omega)))))
  all_goals first
   | contradiction
   | (rw [goV_1 (by assumption)]; exact z02 rfl (Le.refl _))
   | (rw [goV_2 (by assumption) (by assumption)]; exact z02 rfl (Le.refl _))
   | (rw [goV_3 (by assumption) (by assumption)]; exact z02 rfl (Le.refl _))
   | (rw [goV_4 (by assumption) (by assumption) (by assumption)]; exact z02 rfl (Le.refl _))
   | (rw [goV_5 (by assumption) (by assumption) (by assumption) (by assumption) (by assumption) (by assumption)]; exact z02 rfl (Le.refl _))
   | (rw [goV_6 (by assumption) (by assumption) (by assumption) (by first | (left; assumption) | (right; left; assumption) | (right; right; assumption))]; exact z02 rfl (Le.refl _))
end
section
open Abs Facts Tr
attribute [local irreducible] awp
set_option maxRecDepth 100000
def zhd (u : T) (x : It) : (Idv × Int) × Int :=
 if x.kind = 0 then za3 u x.at_ x.wh else if ¬ x.kind = 6 \/ whB x.wh = false then ((Idv.zero, 0), 1) else
 if ¬ (z2q u x.at_).2 = 0 then ((Idv.zero, 0), (z2q u x.at_).2) else if ¬ (z2q u x.to).2 = 0 then ((Idv.zero, 0), (z2q u x.to).2) else
 zh1 u (z2q u x.at_).1 (z2q u x.to).1 x.wh
theorem zwb (u : T) (id to : Idv) (w : Int) : (zh1 u id to w).2 = 0 \/ zh1 u id to w = ((Idv.zero, 0), 9) := by
 unfold zh1
 split
 ·exact .inr rfl
 split
 ·exact .inl rfl
 rcases zlt u to w with h | h
 ·split
  ·exact .inl h
  ·exact .inl h
 ·rw [h, if_neg (by rintro ⟨g, _⟩; cases g)]
  exact .inr rfl
theorem zfc (u : T) (hs : szB u = true) (hc : cntT u <= 1100) (hd : depT u <= 1000000) (x : It) (ha : x.at_.length <= maxLen) (has : ∀ s ∈ x.at_, s.label.size <= maxLen) (ht : x.to.length <= maxLen) (hts : ∀ s ∈ x.to, s.label.size <= maxLen) :
  PC Tryz.prog 8 [z1a u, zcs x] (zu8 (zhd u x)) := by
 have c1 := zbc u hs hc hd x.at_ ha has x.wh
 have c2 := zfe x.wh
 have c3 := z9s u hs hc x.at_ ha has
 have c4 := z9s u hs hc x.to ht hts
 refine z1v 3 (by simp only [pureD.pureL, z04, z4r, Bool.and_self]) rfl (z1t [600071, 900005, 600069, 900005, 600004, 900002] Tryz.func8 rfl (by decide +kernel) z0k (by decide +kernel) (by simp [Tryz.ntmps8]) ?_)
 show awp _ _ (Code.seq _ _) _ _
 rw [show Tryz.f8.results.toList = [.cell 4 23, .tmp 5, .tmp 6] from rfl]
 unfold zhd
 by_cases hk : x.kind = 0
 ·rw [if_pos hk]
  generalize za3 u x.at_ x.wh = r at c1 ⊢
  obtain ⟨⟨i, z⟩, e⟩ := r
  repeat' (first | refine zqj ?_ | ((first | refine zqh fun K J => ?_ | refine zqs (c1) ?_); (simp (disch := omega) only [go_sem, Nat.reduceBEq, ↓reduceIte, reduceCtorEq, Nat.reduceAdd, Nat.reduceLeDiff, zu8, hk])) | ((refine zqd _ rfl (fun hc => ?_) (fun hc => ?_)) <;> (first | (cases hc; done) | ((try simp only [] at hc); (try (exfalso; omega))))) | refine zqg ?_ | refine zqu (by (simp (disch := omega) only [go_sem, Nat.reduceBEq, ↓reduceIte, Nat.reduceAdd, Nat.reduceLeDiff]); rfl) rfl ?_ | (refine J _ ?_; clear J K))
  exact z02 rfl (Le.refl _)
 ·rw [if_neg hk]
  by_cases h2 : ¬ x.kind = 6 \/ whB x.wh = false
  ·rw [if_pos h2]
   repeat' (first | refine zqj ?_ | ((first | refine zqh fun K J => ?_ | refine zqs (c2) ?_); (simp (disch := omega) only [go_sem, Nat.reduceBEq, ↓reduceIte, reduceCtorEq, Nat.reduceAdd, Nat.reduceLeDiff, z0a])) | ((refine zqd _ rfl (fun hc => ?_) (fun hc => ?_)) <;> (first | (cases hc; done) | ((try simp only [z03] at hc); (try (exfalso; omega))))) | refine zqb ?_ | refine zqg ?_ | refine zqu (by (simp (disch := omega) only [go_sem, Nat.reduceBEq, ↓reduceIte, Nat.reduceAdd, Nat.reduceLeDiff]); rfl) rfl ?_ | (refine J _ ?_; clear J K) | (refine zqf (fun hb => ?_) (fun hb => ?_) <;> (have hb2 := hb; try simp only [z03] at hb2) <;> ((first | have F := eq_false hb2 | have F := eq_true hb2); (simp (disch := omega) only [go_sem, Nat.reduceBEq, ↓reduceIte, reduceCtorEq, Nat.reduceAdd, F]); clear hb F; (try (exfalso; omega)))))
   all_goals first | exact z02 rfl (Le.refl _) | (exfalso; simp_all; done)
  ·rw [if_neg h2]
   simp only [not_or, Classical.not_not, Bool.not_eq_false] at h2
   obtain ⟨hk6, hw⟩ := h2
   rw [hw] at c2
   have hw4 : 0 <= x.wh /\ x.wh <= 3 := of_decide_eq_true hw
   clear c1
   generalize z2q u x.at_ = r1 at c3 ⊢
   generalize z2q u x.to = r2 at c4 ⊢
   obtain ⟨i1, e1⟩ := r1
   obtain ⟨i2, e2⟩ := r2
   simp only at c3 c4
   have c5 := zxt u hs hd i1 i2 x.wh hw4
   have hge := zwb u i1 i2 x.wh
   by_cases h3 : e1 = 0
   ·subst h3
    rw [if_neg (by simp)]
    by_cases h4 : e2 = 0
    ·subst h4
     rw [if_neg (by simp)]
     rcases hge with h0 | h0
     ·generalize zh1 u i1 i2 x.wh = r at c5 h0 ⊢
      obtain ⟨⟨i, n⟩, e⟩ := r
      simp only at h0
      subst h0
      repeat' (first | refine zqj ?_ | ((first | refine zqh fun K J => ?_ | refine zqe (by decide +kernel) fun K J => ?_ | refine zqs (c2) ?_ | refine zqs (c3) ?_ | refine zqs (c4) ?_ | refine zqs (c5) ?_); (simp (disch := omega) only [go_sem, Nat.reduceBEq, Nat.reduceEqDiff, ↓reduceIte, reduceCtorEq, Nat.reduceAdd, Nat.reduceLeDiff, Int.reduceEq, z07, z5p, zdb, z7t, z0a, List.cons_append, List.nil_append, hk6])) | ((refine zqd _ rfl (fun hc => ?_) (fun hc => ?_)) <;> (first | (cases hc; done) | ((try simp only [] at hc); (try (exfalso; omega))))) | refine zqb ?_ | refine zqn ?_ | refine zqu (by (simp (disch := omega) only [go_sem, Nat.reduceBEq, ↓reduceIte, Nat.reduceAdd, Nat.reduceLeDiff]); rfl) rfl ?_ | (refine J _ ?_; clear J K))
      exact z02 rfl (Le.refl _)
     ·rw [h0] at c5 ⊢
      repeat' (first | refine zqj ?_ | ((first | refine zqh fun K J => ?_ | refine zqs (c2) ?_ | refine zqs (c3) ?_ | refine zqs (c4) ?_ | refine zqs (c5) ?_); (simp (disch := omega) only [go_sem, Nat.reduceBEq, ↓reduceIte, reduceCtorEq, Nat.reduceAdd, Nat.reduceLeDiff, Int.reduceEq, z07, z5p, zdb, z7t, z0a, List.cons_append, List.nil_append, hk6])) | ((refine zqd _ rfl (fun hc => ?_) (fun hc => ?_)) <;> (first | (cases hc; done) | ((try simp only [] at hc); (try (exfalso; omega))))) | refine zqb ?_ | refine zqg ?_ | refine zqu (by (simp (disch := omega) only [go_sem, Nat.reduceBEq, ↓reduceIte, Nat.reduceAdd, Nat.reduceLeDiff]); rfl) rfl ?_ | (refine J _ ?_; clear J K))
      exact z02 rfl (Le.refl _)
    ·rw [if_pos h4]
     repeat' (first | refine zqj ?_ | ((first | refine zqh fun K J => ?_ | refine zqs (c2) ?_ | refine zqs (c3) ?_ | refine zqs (c4) ?_); (simp (disch := omega) only [go_sem, Nat.reduceBEq, ↓reduceIte, reduceCtorEq, Nat.reduceAdd, Nat.reduceLeDiff, Int.reduceEq, z0a, hk6])) | ((refine zqd _ rfl (fun hc => ?_) (fun hc => ?_)) <;> (first | (cases hc; done) | ((try simp only [z03] at hc); (try (exfalso; omega))))) | refine zqb ?_ | refine zqg ?_ | refine zqu (by (simp (disch := omega) only [go_sem, Nat.reduceBEq, ↓reduceIte, Nat.reduceAdd, Nat.reduceLeDiff]); rfl) rfl ?_ | (refine J _ ?_; clear J K))
     exact z02 rfl (Le.refl _)
   ·rw [if_pos h3]
    repeat' (first | refine zqj ?_ | ((first | refine zqh fun K J => ?_ | refine zqs (c2) ?_ | refine zqs (c3) ?_); (simp (disch := omega) only [go_sem, Nat.reduceBEq, ↓reduceIte, reduceCtorEq, Nat.reduceAdd, Nat.reduceLeDiff, Int.reduceEq, z0a, hk6])) | ((refine zqd _ rfl (fun hc => ?_) (fun hc => ?_)) <;> (first | (cases hc; done) | ((try simp only [z03] at hc); (try (exfalso; omega))))) | refine zqb ?_ | refine zqg ?_ | refine zqu (by (simp (disch := omega) only [go_sem, Nat.reduceBEq, ↓reduceIte, Nat.reduceAdd, Nat.reduceLeDiff]); rfl) rfl ?_ | (refine J _ ?_; clear J K))
    exact z02 rfl (Le.refl _)
end
section
open Abs Facts Tr
namespace Tr
def zoo (u : T) (most : Int) : Bool := zum u most && (decide (u.kind = 0) && (z6o u && (decide (u.kids.length = 0) || !decide ((u.kids.headD u).id = u.id))))
theorem zl7 {u : T} {most : Int} (h : zoo u most = true) : z10 u = true := by
 unfold zoo z6o zwe at h
 simp only [Bool.and_eq_true, decide_eq_true_eq, Bool.or_eq_true, Bool.not_eq_true', decide_eq_false_iff_not] at h
 obtain ⟨_, h0, ⟨h1, h2, h3, h4⟩, h5⟩ := h
 rw [z20]
 refine ⟨h1, h2, h3, ?_⟩
 rcases h4 with h4 | ⟨h4, h6⟩
 ·have ha : ∀ i ∈ z0c u, i = Idv.zero := fun i hi => by simpa using List.all_eq_true.1 h4 i hi
  have hz : u.id = Idv.zero := ha _ (z1d u)
  have hk : u.kids = [] := by
   cases hk : u.kids with
   | nil => rfl
   | cons k l =>
    exfalso
    rw [hk] at h5
    rcases h5 with h5 | h5
    ·simp at h5
    ·refine h5 ?_
     rw [hz]
     show k.id = _
     refine ha _ ?_
     rw [z1r, hk]
     exact List.mem_cons_of_mem _ (List.mem_flatMap.2 ⟨k, by simp, z1d k⟩)
  rw [z1r, hk]
  exact ⟨by simp, ⟨fun _ => h0, fun _ => hz⟩, by simp⟩
 ·refine ⟨h6, h4, fun hm => ?_⟩
  have hz := h4.2 h0
  rw [z1r, List.nodup_cons] at h6
  exact h6.1 (hz ▸ hm)
noncomputable def doR (u : T) (d : EIt) : T × Int :=
 if (decide (0 <= d.it.kind /\ d.it.kind <= 6) && zcu d.it) = false then (u, 1) else
 if ¬ (z2q u d.it.at_).2 = 0 then (u, (z2q u d.it.at_).2) else
 if d.it.kind = 0 then (zb8 u (z2q u d.it.at_).1 d.it.wh (z4i d.act d.item d.it.unit), z6e u (z2q u d.it.at_).1 d.it.wh (z4i d.act d.item d.it.unit)) else
 if ¬ (z2q u d.it.to).2 = 0 then (u, (z2q u d.it.to).2) else (z3a u (z2q u d.it.at_).1 (z2q u d.it.to).1 d.it.wh, z3u u (z2q u d.it.at_).1 (z2q u d.it.to).1 d.it.wh)
theorem zsx {x : It} (h : zcu x = true) (hk : x.kind = 0 \/ x.kind = 6) : 0 <= x.wh /\ x.wh <= 3 := by
 rw [ztg] at h
 unfold mayF z4s at h
 simp only [Bool.and_eq_true] at h
 obtain ⟨_, _, h⟩ := h
 rcases hk with hk | hk
 ·rw [if_pos hk] at h
  simp only [Bool.and_eq_true, inB, decide_eq_true_eq] at h
  exact h.1
 ·rw [if_neg (by omega), if_neg (by omega), if_neg (by omega), if_neg (by omega), if_neg (by omega), if_pos hk] at h
  simp only [Bool.and_eq_true, inB, decide_eq_true_eq] at h
  exact h.1
theorem zwp {w : Int} (h : 0 <= w /\ w <= 3) : whB w = true := decide_eq_true h
theorem zwq {u : T} {id par : Idv} {n : Nat} (hn : (z0c u).Nodup) (h0 : ¬ u.id = id) (hm : id ∈ z0c u) (hp : z31 id u = (par, (n : Int), true)) :
  par ∈ z0c u /\ n < (z0b par u).1.kids.length /\ ∀ h : n < (z0b par u).1.kids.length, (z0b par u).1.kids[n].id = id := by
 obtain ⟨q, l, x, r, e1, e2, e3, e4, e5, n1, n2, e6, _⟩ := zcq hn h0 hm
 rw [hp] at e1
 simp only [Prod.mk.injEq, and_true] at e1
 obtain ⟨g1, g2⟩ := e1
 have g2 : n = l.length := by omega
 subst g1 g2
 rw [e4]
 refine ⟨e6, ?_, fun h => ?_⟩
 ·show _ < (l ++ x :: r).length
  simp
 ·have key : ∀ (m : List T) (e : m = l ++ x :: r) (h : l.length < m.length), m[l.length].id = id := fun m e h => by
   subst e
   rw [List.getElem_append_right (Nat.le_refl _)]
   simpa using e3
  exact key _ rfl h
theorem zsy {par : Idv} {f : T -> T} (hf : ∀ t, (f t).id = t.id) (t : T) : (z25 par f t).id = t.id := by
 rw [z7l]
 split
 ·exact hf t
 ·rfl
theorem zz2 {u : T} {d : EIt} (hs : z10 u = true) (hm : zcu d.it = true) (hk : d.it.kind = 0 \/ d.it.kind = 6) (hd : (doR u d).2 = 0) :
  (zhd u d.it).2 = 0 /\ 0 <= z55 (zhd u d.it).1.1 (doR u d).1 /\ ∃ n : Nat, (zhd u d.it).1.2 = (n : Int) /\ ∃ h : n < (z0b (zhd u d.it).1.1 (doR u d).1).1.kids.length,
   ((z0b (zhd u d.it).1.1 (doR u d).1).1.kids[n]).id = (if d.it.kind = 6 then (z2q u d.it.at_).1 else ⟨d.act, d.item, 1⟩) := by
 have hw := zsx hm hk
 have hn := z5f hs
 have hk2 : decide (0 <= d.it.kind /\ d.it.kind <= 6) = true := decide_eq_true (by omega)
 unfold doR at hd ⊢
 rw [hk2, hm] at hd ⊢
 rw [Bool.true_and, if_neg (by simp)] at hd ⊢
 by_cases h1 : (z2q u d.it.at_).2 = 0
 case neg => rw [if_pos h1] at hd; exact (h1 hd).elim
 rw [if_neg (by simpa using h1)] at hd ⊢
 have hin : (z2q u d.it.at_).1 ∈ z0c u := zge (e := (z2q u d.it.at_).2) rfl h1
 unfold zhd za3
 rcases hk with hk | hk
 ·rw [if_pos hk] at hd ⊢
  rw [if_pos hk, zwp hw, if_neg (by simp), if_pos h1, if_neg (c := d.it.kind = 6) (by omega)]
  simp only at hd ⊢
  obtain ⟨l1, l2, l3⟩ := zhe hn hin hw hd
  rw [l1]
  unfold zb8
  rw [if_pos hd]
  obtain ⟨g1, g2, g3⟩ := ins_at (x := z4i d.act d.item d.it.unit) hn l2 l3
  refine ⟨rfl, ?_, _, rfl, ?_⟩
  ·have : z38 u (z2q u d.it.at_).1 d.it.wh ∈ z0c (z25 (z38 u (z2q u d.it.at_).1 d.it.wh) (z5a (zb7 u (z2q u d.it.at_).1 d.it.wh) (z4i d.act d.item d.it.unit)) u) := by
    have := congrArg Prod.snd g1
    rw [z2y, decide_eq_true_eq] at this; exact this
   exact z9r.2 (z3p.2 this)
  ·simp only [g1]
   exact ⟨g2, by rw [g3 g2, zu1]⟩
 ·rw [if_neg (c := d.it.kind = 0) (by omega)] at hd ⊢
  rw [if_neg (c := d.it.kind = 0) (by omega), if_neg (by rw [zwp hw]; simp [hk]), if_neg (by simpa using h1), if_pos hk]
  by_cases h2 : (z2q u d.it.to).2 = 0
  case neg => rw [if_pos h2] at hd; exact (h2 hd).elim
  rw [if_neg (by simpa using h2)] at hd ⊢
  rw [if_neg (by simpa using h2)]
  have hto : (z2q u d.it.to).1 ∈ z0c u := zge (e := (z2q u d.it.to).2) rfl h2
  simp only at hd ⊢
  generalize (z2q u d.it.at_).1 = id at *
  generalize (z2q u d.it.to).1 = to at *
  rw [zyn hs hin hto hw hd]
  obtain ⟨a1, a2, a3⟩ := z8i hs hin hto hd
  unfold z3a
  by_cases he : to = id
  ·rw [if_pos he, if_neg (fun h => h.2 he)]
   obtain ⟨q, l, x, r, e1, _⟩ := zcq hn a1 hin
   obtain ⟨b1, b2, b3⟩ := zwq hn a1 hin e1
   simp only [e1]
   exact ⟨trivial, z9r.2 (z3p.2 b1), _, rfl, b2, b3 b2⟩
  ·rw [if_neg he, if_pos ⟨hd, he⟩]
   obtain ⟨c1, c2, c3⟩ := a3 he
   obtain ⟨under, n, m1, m2, m3, m4, m5, m6⟩ := zgd c3
   have hid : (z25 (z38 u to d.it.wh) (z5a (zj6 u id to d.it.wh) (z0b id u).1) (z0o id u)).id = u.id /\ id ∈ z0c (z25 (z38 u to d.it.wh) (z5a (zj6 u id to d.it.wh) (z0b id u).1) (z0o id u)) := by
    obtain ⟨_, y1, y2, y3, _⟩ := zl6 m3
    refine ⟨?_, y1⟩
    have h4 := m4
    generalize (z25 (z38 u to d.it.wh) (z5a (zj6 u id to d.it.wh) (z0b id u).1) (z0o id u)) = v at *
    rw [<- h4, zsy]
    ·exact ((z5x id v).1).symm
    ·intro t; rfl
   obtain ⟨b1, b2, b3⟩ := zwq (z5f m5) (fun e => a1 (hid.1 ▸ e)) hid.2 m2
   exact ⟨rfl, z9r.2 (z3p.2 b1), _, rfl, b2, b3 b2⟩
theorem zvv {u : T} {id to : Idv} {wh : Int} (hs : z10 u = true) (hm : id ∈ z0c u) (ht : to ∈ z0c u) (h : z3u u id to wh = 0) : ∃ (under : Idv) (n : Nat), z31 id u = (under, (n : Int), true) /\ z10 (z3a u id to wh) = true /\ id ∈ z0c (z3a u id to wh) /\ ¬ (z3a u id to wh).id = id /\
  zjo (z3a u id to wh) id under n = 0 /\ z25 under (z5a n (z0b id (z3a u id to wh)).1) (z0o id (z3a u id to wh)) = u /\ cntT (z3a u id to wh) = cntT u := by
 obtain ⟨a1, a2, a3⟩ := z8i hs hm ht h
 unfold z3a
 by_cases he : to = id
 ·rw [if_neg (fun g => g.2 he)]
  obtain ⟨under, n, x, d1, d2, d3, d4, d5, d6, d7, d8, d9, d10, d11, d12⟩ := z6r hs a1 hm
  refine ⟨under, n, d1, hs, hm, a1, zeq hs d2 (zgu id u under d10) a1 (fun hc => d9 under hc d10) d7, ?_, rfl⟩
  rw [d2]; exact d8
 ·rw [if_pos ⟨h, he⟩]
  obtain ⟨c1, c2, c3⟩ := a3 he
  obtain ⟨under, n, m1, m2, m3, m4, m5, m6⟩ := zgd c3
  obtain ⟨_, y1, _, y3, _⟩ := zl6 m3
  exact ⟨under, n, m1, m5, y1, y3, m3, m4, m6⟩
theorem zjs : ∀ t : T, z36 t = true -> ∀ x ∈ z08 t, z36 x = true := by
 refine z3y fun t ih h x hx => ?_
 rw [z1x, List.mem_cons] at hx
 rcases hx with rfl | hx
 ·exact h
 ·obtain ⟨k, hk, hx⟩ := List.mem_flatMap.1 hx
  rw [z5o] at h
  simp only [Bool.and_eq_true] at h
  exact ih k hk (List.all_eq_true.1 h.2.2.1 k hk) x hx
theorem zvw {par : Idv} {f : T -> T} {m : Nat} (hf : ∀ q, depT (f q) <= depT q + m) : ∀ u : T, depT (z25 par f u) <= depT u + m := by
 refine z3y fun u ih => ?_
 rw [z7l]
 split
 ·exact hf u
 ·rw [z3v, z3v u]
  show z9e ((u.kids.map (z25 par f)).map depT) <= _
  generalize u.kids = l at ih
  induction l with
  | nil => exact Nat.zero_le _
  | cons k l ih2 =>
   simp only [List.map_cons, z6t]
   have h1 := ih k (by simp)
   have h2 := ih2 fun k hk => ih k (List.mem_cons_of_mem _ hk)
   omega
theorem zvx (n : Nat) (x q : T) : depT (z5a n x q) <= depT q + (1 + depT x) := by
 rw [z3v, z3v q]
 show z9e ((q.kids.take n ++ x :: q.kids.drop n).map depT) <= _
 have e : z9e (q.kids.map depT) = max (z9e ((q.kids.take n).map depT)) (z9e ((q.kids.drop n).map depT)) := by
  rw [<- z4p, <- List.map_append, List.take_append_drop]
 rw [e, List.map_append, List.map_cons, z4p, z6t]
 omega
theorem zg8 {u x : T} {par : Idv} {n : Nat} (hn : (z0c u).Nodup) (hm : par ∈ z0c u) (hu : szB u = true) (hx : szB x = true) (hl : (z0b par u).1.kids.length < 1000000) :
  szB (z25 par (z5a n x) u) = true /\ depT (z25 par (z5a n x) u) <= depT u + (1 + depT x) := by
 refine ⟨?_, zvw (zvx n x) u⟩
 rw [<- z9b (f := z5a n x) hn (Prod.ext rfl (zd9 hm))]
 exact zys (fun _ _ _ => zyr (zbd par u hu) hx hl) u hu
theorem zsz {u : T} {d : EIt} (hs : z10 u = true) (hz : szB u = true) (hm : zcu d.it = true) (hk : d.it.kind = 0 \/ d.it.kind = 6) (hd : (doR u d).2 = 0) (z1 : szB d.it.unit = true) (z3 : depT d.it.unit <= 1000) : szB (doR u d).1 = true /\ depT (doR u d).1 <= 3000 := by
 have hw := zsx hm hk
 obtain ⟨_, s2, _, hn, _⟩ := (z20 u).1 hs
 have hk2 : decide (0 <= d.it.kind /\ d.it.kind <= 6) = true := decide_eq_true (by omega)
 unfold doR at hd ⊢
 rw [hk2, hm] at hd ⊢
 rw [Bool.true_and, if_neg (by simp)] at hd ⊢
 by_cases h1 : (z2q u d.it.at_).2 = 0
 case neg => rw [if_pos h1] at hd; exact (h1 hd).elim
 rw [if_neg (by simpa using h1)] at hd ⊢
 have hin : (z2q u d.it.at_).1 ∈ z0c u := zge (e := (z2q u d.it.at_).2) rfl h1
 rcases hk with hk | hk
 ·rw [if_pos hk] at hd ⊢
  simp only at hd ⊢
  obtain ⟨_, l2, _⟩ := zhe hn hin hw hd
  have hl : (z0b (z38 u (z2q u d.it.at_).1 d.it.wh) u).1.kids.length < 1000000 := by
   unfold z6e at hd
   split at hd
   ·cases hd
   split at hd
   ·cases hd
   split at hd
   ·cases hd
   split at hd
   ·cases hd
   rename_i h
   omega
  unfold zb8
  rw [if_pos hd]
  obtain ⟨g1, g2⟩ := zg8 (n := zb7 u (z2q u d.it.at_).1 d.it.wh) (x := z4i d.act d.item d.it.unit) hn l2 hz (zlp _ _ _ z1 1 0) hl
  refine ⟨g1, ?_⟩
  have : depT (z4i d.act d.item d.it.unit) = depT d.it.unit := zhq _ _ _ 1 0
  omega
 ·rw [if_neg (c := d.it.kind = 0) (by omega)] at hd ⊢
  by_cases h2 : (z2q u d.it.to).2 = 0
  case neg => rw [if_pos h2] at hd; exact (h2 hd).elim
  rw [if_neg (by simpa using h2)] at hd ⊢
  have hto : (z2q u d.it.to).1 ∈ z0c u := zge (e := (z2q u d.it.to).2) rfl h2
  simp only at hd ⊢
  generalize (z2q u d.it.at_).1 = id at *
  generalize (z2q u d.it.to).1 = to at *
  obtain ⟨under, n, e1, e2, e3, e4, e5, e6, e7⟩ := zvv hs hin hto hd
  refine ⟨?_, by have := ((z20 _).1 e2).2.1; omega⟩
  obtain ⟨a1, a2, a3⟩ := z8i hs hin hto hd
  unfold z3a
  by_cases he : to = id
  ·rw [if_neg fun g => g.2 he]; exact hz
  ·rw [if_pos ⟨hd, he⟩]
   obtain ⟨c1, c2, c3⟩ := a3 he
   obtain ⟨under', n', x, d1, d2, d3, d4, d5, d6, d7, d8, d9, d10, d11, d12⟩ := z6r hs a1 hin
   have hpw : z38 u to d.it.wh ∈ z0c (z0o id u) := (d12 _ c1).resolve_left (fun g => c2 (by rw [d2]; exact g))
   refine (zg8 (z5f d4) hpw (zl2 u hz) (zbd id u hz) ?_).1
   have hst := ((z20 _).1 d4).1
   have hnode := z6m (zd9 hpw)
   have := (zjc (zjs _ hst _ hnode)).2
   omega
end Tr
end
section
open Abs Facts Tr
attribute [local irreducible] awp
set_option maxRecDepth 100000
theorem zpj (k : Int) : PC Tryz.prog 33 [.int .i64 k] (.bool (decide (0 <= k /\ k <= 6))) := by
 refine z1v 1 rfl rfl (z1t [] Tryz.func33 rfl (by decide +kernel) z0k (by decide +kernel) (by simp [Tryz.ntmps33]) ?_)
 show awp _ _ (Code.seq _ _) _ _
 repeat' (first | ((refine zqh fun K J => ?_); (simp (disch := omega) only [go_sem, Nat.reduceBEq, ↓reduceIte])) | refine zqn ?_ | refine zqu (by (simp (disch := omega) only [go_sem]); rfl) rfl ?_ | (refine J _ ?_; clear J K) | (refine zqf (fun hb => ?_) (fun hb => ?_) <;> (have hb2 := hb; try simp only [z03] at hb2) <;> ((first | have F := eq_false hb2 | have F := eq_true hb2); (simp (disch := omega) only [go_sem, Nat.reduceBEq, ↓reduceIte, F]); clear hb F; (try (exfalso; omega)))))
 all_goals first | exact z00 (decide_eq_true (by omega)).symm | exact z00 (decide_eq_false (by omega)).symm | exact z00 (decide_eq_decide.2 (by omega))
set_option maxHeartbeats 16000000 in
theorem zxs (u : T) (hst : z10 u = true) (hz : szB u = true) (hc : cntT u <= 1100) (d : EIt) (hx : OkI d.it) (hk : d.it.kind = 0 \/ d.it.kind = 6) : PC Tryz.prog 9 [z1a u, zlh d] (.tup [z1a (doR u d).1, .int .i64 (doR u d).2]) := by
 obtain ⟨b, _⟩ := (zd8 d.it).1 hx
 have m1 : 1000 <= maxLen := by unfold maxLen; omega
 have c1 := zpj d.it.kind
 have c2 := zly d.it hx
 have c3 := zk7 u hz hc d.it.at_ (by have := b.at_.1; omega) fun s hs => by have := b.at_.2 s hs; omega
 have hkd : decide (0 <= d.it.kind /\ d.it.kind <= 6) = true := decide_eq_true (by omega)
 rw [hkd] at c1
 refine z1v 3 (by simp only [pureD.pureL, z04, zb4, Bool.and_self]) (by simp only [pureD, pureD.pureL, z04, Bool.and_self]) (z1t [] Tryz.func9 rfl (by decide +kernel) z0k (by decide +kernel) (by simp [Tryz.ntmps9]) ?_)
 show awp _ _ (Code.seq _ _) _ _
 rw [show Tryz.f9.results.toList = [.cell 4 27, .tmp 5] from rfl]
 obtain ⟨R, hR⟩ : ∃ R, R = doR u d := ⟨_, rfl⟩
 rw [<- hR]
 unfold doR at hR
 rw [hkd, Bool.true_and] at hR
 by_cases hm : zcu d.it = true
 case neg =>
  rw [Bool.not_eq_true] at hm
  rw [if_pos hm] at hR
  rw [hm] at c2
  rw [hR]
  repeat' (first | refine zqj ?_ | ((first | refine z01 (N := 3) rfl fun K J => ?_ | refine zqs (c1) ?_ | refine zqs (c2) ?_); (simp (disch := omega) only [go_sem, Nat.reduceBEq, ↓reduceIte, reduceCtorEq, Nat.reduceAdd, Nat.reduceLeDiff])) | ((refine zqd _ rfl (fun hc => ?_) (fun hc => ?_)) <;> (first | (cases hc; done) | ((try simp only [] at hc); (try (exfalso; omega))))) | refine zqg ?_ | refine zqu (by (simp (disch := omega) only [go_sem, Nat.reduceBEq, ↓reduceIte, Nat.reduceLeDiff]); rfl) rfl ?_ | (refine J _ ?_; clear J K))
  exact z02 (by simp only [pureD, pureD.pureL, z0d, Bool.and_self]) (Le.refl _)
 rw [if_neg (by rw [hm]; decide)] at hR
 rw [hm] at c2
 by_cases h1 : (z2q u d.it.at_).2 = 0
 case neg =>
  rw [if_pos h1] at hR
  have hod : decide ((z2q u d.it.at_).2 = 0) = false := decide_eq_false h1
  rw [hR]
  repeat' (first | refine zqj ?_ | ((first | refine z01 (N := 6) rfl fun K J => ?_ | refine zqs (c1) ?_ | refine zqs (c2) ?_ | refine zqs (c3) ?_); (simp (disch := omega) only [go_sem, Nat.reduceBEq, ↓reduceIte, reduceCtorEq, Nat.reduceAdd, Nat.reduceLeDiff, z0a])) | ((refine zqd _ rfl (fun hc => ?_) (fun hc => ?_)) <;> (first | (cases hc; done) | ((try simp only [z03] at hc); (try (exfalso; omega))))) | refine zqb ?_ | refine zqg ?_ | refine zqu (by (simp (disch := omega) only [go_sem, Nat.reduceBEq, ↓reduceIte, Nat.reduceLeDiff]); rfl) rfl ?_ | (refine J _ ?_; clear J K))
  exact z02 (by simp only [pureD, pureD.pureL, z0d, Bool.and_self]) (Le.refl _)
 rw [if_neg (by simpa using h1)] at hR
 have hin : (z2q u d.it.at_).1 ∈ z0c u := zge (e := (z2q u d.it.at_).2) rfl h1
 have hw := zsx hm hk
 rw [h1] at c3
 rcases hk with hk | hk
 ·rw [if_pos hk] at hR
  have c4 := zk8 u hst hz hc (z2q u d.it.at_).1 hin d hw b.unit.1 b.unit.2.1 (by have := b.unit.2.2; omega)
  rw [<- (Prod.mk.inj hR).1, <- (Prod.mk.inj hR).2] at c4
  have hk0 : decide (d.it.kind = 0) = true := decide_eq_true hk
  repeat' (first | refine zqj ?_ | ((first | refine zqh fun K J => ?_ | refine zqs (c1) ?_ | refine zqs (c2) ?_ | refine zqs (c3) ?_ | refine zqs (c4) ?_); (simp (disch := omega) only [go_sem, Nat.reduceBEq, ↓reduceIte, reduceCtorEq, Nat.reduceAdd, Nat.reduceLeDiff, z0a, hk0])) | ((refine zqd _ rfl (fun hc => ?_) (fun hc => ?_)) <;> (first | (cases hc; done) | ((try simp only [] at hc); (try (exfalso; omega))))) | refine zqb ?_ | refine zqg ?_ | refine zqu (by (simp (disch := omega) only [go_sem, Nat.reduceBEq, ↓reduceIte, Nat.reduceLeDiff]); rfl) rfl ?_ | (refine J _ ?_; clear J K))
  exact z02 (by simp only [pureD, pureD.pureL, z0d, Bool.and_self]) (Le.refl _)
 ·rw [if_neg (by omega)] at hR
  have c4 := zpc u hst hz hc (z2q u d.it.at_).1 hin d hw (by have := b.to.1; omega) fun s hs => by have := b.to.2 s hs; omega
  have hR2 : R = (if (z2q u d.it.to).2 = 0 then z3a u (z2q u d.it.at_).1 (z2q u d.it.to).1 d.it.wh else u, if (z2q u d.it.to).2 = 0 then z3u u (z2q u d.it.at_).1 (z2q u d.it.to).1 d.it.wh else (z2q u d.it.to).2) := by
   rw [hR]
   by_cases h2 : (z2q u d.it.to).2 = 0
   ·rw [if_neg (by simpa using h2), if_pos h2, if_pos h2]
   ·rw [if_pos h2, if_neg h2, if_neg h2]
  rw [<- (Prod.mk.inj hR2).1, <- (Prod.mk.inj hR2).2] at c4
  have hk0 : decide (d.it.kind = 0) = false := decide_eq_false (by omega)
  have hk6 : decide (d.it.kind = 6) = true := decide_eq_true hk
  repeat' (first | refine zqj ?_ | ((first | refine zqh fun K J => ?_ | refine zqs (c1) ?_ | refine zqs (c2) ?_ | refine zqs (c3) ?_ | refine zqs (c4) ?_); (simp (disch := omega) only [go_sem, Nat.reduceBEq, ↓reduceIte, reduceCtorEq, Nat.reduceAdd, Nat.reduceLeDiff, z0a, hk0, hk6])) | ((refine zqd _ rfl (fun hc => ?_) (fun hc => ?_)) <;> (first | (cases hc; done) | ((try simp only [] at hc); (try (exfalso; omega))))) | refine zqb ?_ | refine zqg ?_ | refine zqu (by (simp (disch := omega) only [go_sem, Nat.reduceBEq, ↓reduceIte, Nat.reduceLeDiff]); rfl) rfl ?_ | (refine J _ ?_; clear J K))
  exact z02 (by simp only [pureD, pureD.pureL, z0d, Bool.and_self]) (Le.refl _)
theorem zn4 (u : T) (hf : fitB u = true) (most : Int) (h0 : 0 <= most) (h1 : most <= 1000) : PC Tryz.prog 5 [z1a u, .int .i64 most] (.bool (zoo u most)) := by
 have c1 := zwi u hf most h0 h1
 refine z1v 1 (by simp only [pureD.pureL, z04, pureD, Bool.and_self]) rfl (z1t [] Tryz.func5 rfl (by decide +kernel) z0k (by decide +kernel) (by simp [Tryz.ntmps5]) ?_)
 show awp _ _ (Code.seq _ _) _ _
 unfold zoo
 by_cases hfw : zum u most = true
 case neg =>
  rw [Bool.not_eq_true] at hfw
  rw [hfw] at c1 ⊢
  repeat' (first | ((first | refine zqh fun K J => ?_ | refine zqe (by decide +kernel) fun K J => ?_ | refine zqt (c1) ?_); (simp (disch := omega) only [go_sem, Nat.reduceBEq, ↓reduceIte, Nat.reduceAdd, Nat.reduceLeDiff])) | refine zqn ?_ | refine zqu (by (simp (disch := omega) only [go_sem]); rfl) rfl ?_ | (refine J _ ?_; clear J K))
  exact z00 rfl
 obtain ⟨z1, z2, z3⟩ := zpi h0 h1 hfw
 have c2 := zwg u z1 (by omega) (by omega)
 rw [hfw] at c1 ⊢
 rw [Bool.true_and]
 have hl := ((z1q u).1 z1).2.2.2.2.2.1
 have hz : Int.toNat 0 = 0 := rfl
 cases hkn : u.kids with
 | nil =>
  repeat' (first | ((first | refine zqh fun K J => ?_ | refine zqe (by decide +kernel) fun K J => ?_ | refine zqt (c1) ?_ | refine zqt (c2) ?_); (simp (disch := omega) only [go_sem, Nat.reduceBEq, ↓reduceIte, reduceCtorEq, Nat.reduceAdd, Nat.reduceLeDiff, List.map_nil])) | refine zqn ?_ | refine zqu (by (simp (disch := omega) only [go_sem, Nat.reduceBEq, ↓reduceIte]); rfl) rfl ?_ | (refine J _ ?_; clear J K) | (refine zqf (fun hb => ?_) (fun hb => ?_) <;> (have hb2 := hb; try simp only [z03] at hb2) <;> ((first | have F : (_ : Bool) = _ := hb2 | have F := eq_false hb2 | have F := eq_true hb2); (simp (disch := omega) only [go_sem, Nat.reduceBEq, ↓reduceIte, reduceCtorEq, Nat.reduceAdd, Nat.reduceLeDiff, hb, F, z0e, hkn, List.length_nil, List.map_nil]); clear hb F; (try (exfalso; omega)))))
  all_goals first
   | exact z00 rfl
   | (refine z00 ?_; simp [*]; done)
 | cons k l =>
  repeat' (first | ((first | refine zqh fun K J => ?_ | refine zqe (by decide +kernel) fun K J => ?_ | refine zqt (c1) ?_ | refine zqt (c2) ?_); (simp (disch := omega) only [go_sem, Nat.reduceBEq, ↓reduceIte, reduceCtorEq, Nat.reduceAdd, Nat.reduceLeDiff, List.map_cons])) | refine zqn ?_ | refine zqu (by (simp (disch := omega) only [go_sem]); rfl) rfl ?_ | (refine J _ ?_; clear J K) | (refine zqf (fun hb => ?_) (fun hb => ?_) <;> (have hb2 := hb; try simp only [z03] at hb2) <;> ((first | have F : (_ : Bool) = _ := hb2 | have F := eq_false hb2 | have F := eq_true hb2); (simp (disch := omega) only [go_sem, Nat.reduceBEq, ↓reduceIte, reduceCtorEq, Nat.reduceAdd, Nat.reduceLeDiff, hb, F, z0e, hkn, zf9, List.length_cons, List.map_cons]); clear hb F; (try (exfalso; omega)))))
  all_goals first
   | exact z00 rfl
   | (refine z00 ?_; simp [*]; done)
end
section
open Abs Facts Tr
attribute [local irreducible] awp
set_option maxRecDepth 100000
set_option maxHeartbeats 16000000 in
theorem zuj : ∀ x : It, RdI x -> PC Tryz.prog 6 [zcs x] (.bool (zp0 x)) := by
  refine zl9 fun x ih hx => ?_
  obtain ⟨⟨⟨a1, _⟩, ⟨a2, _⟩, ⟨a3, _⟩, ⟨a4, _⟩, a5, a6, a7, a8, a9, a10⟩, hk⟩ := (zgi x).1 hx
  have c1 := zwi x.unit a6 30 (by decide) (by decide)
  unfold maxLen at a1 a2 a3 a4 a5 a7 a8 a9 a10
  refine z1v 1 (by simp only [pureD.pureL, z4r, Bool.and_self]) rfl (z1t [] Tryz.func6 rfl (by decide +kernel) z0k (by decide +kernel) (by simp [Tryz.ntmps6]) ?_)
  show awp _ _ (Code.seq _ _) _ _
  have hno : zxr x = false -> zp0 x = false := fun h => by rw [zk5, h, Bool.false_and]
  repeat' (first | refine zqj ?_ | ((first | refine z01 (N := 3) rfl fun K J => ?_ | refine zqs (c1) ?_); (simp (disch := omega) only [go_sem, Nat.reduceBEq, ↓reduceIte, reduceCtorEq, Nat.reduceAdd, z0a])) | ((refine zqd _ rfl (fun hc => ?_) (fun hc => ?_)) <;> (first | (cases hc; done) | ((try simp only [z03] at hc); (try (exfalso; omega))))) | refine zqb ?_ | refine zqg ?_ | refine zqu (by (simp (disch := omega) only [go_sem]); rfl) rfl ?_ | (refine J _ ?_; clear J K) | (refine zqf (fun hb => ?_) (fun hb => ?_) <;> (have hb2 := hb; try simp only [z03] at hb2) <;> ((first | have F := eq_false hb2 | have F := eq_true hb2); (simp (disch := omega) only [go_sem, Nat.reduceBEq, ↓reduceIte, reduceCtorEq, Nat.reduceAdd, Nat.reduceLeDiff, F, z0a, z39, z3c]); clear hb F; (try (exfalso; omega)))))
  all_goals first
    | (refine z00 (hno ?_).symm
       unfold zxr
       simp only [Bool.and_eq_false_imp, decide_eq_true_eq]
       intros
       first | omega | assumption)
    | skip
  have hN : zxr x = true := by
    unfold zxr
    simp only [Bool.and_eq_true, decide_eq_true_eq]
    exact ⟨by omega, by omega, by omega, by omega, by omega, by omega, by omega, by omega, by omega, by assumption⟩
  rw [zk5, hN, Bool.true_and]
  (refine z1e (fun st => st.t 1 = .ptr 0 0 /\ st.H 0 = some (.box 34 (z0h x)) /\ st.nx = 1) ?_ ?_); rotate_left; (rintro st ⟨p1, pH0, pnx⟩); rotate_left
  · (simp (disch := omega) only [go_sem, Nat.reduceBEq, and_self])
  repeat' (first | ((refine zqh fun K J => ?_); (simp (disch := omega) only [go_sem, pnx])) | refine zqa ?_ | (refine J _ ?_; clear J K))
  (refine z35 (fun U st => ∃ (k : _), U = x.old.length - k /\ st.t 1 = .ptr 0 0 /\ st.t 3 = .int .i64 k /\ st.H 0 = some (.box 34 (z0h x)) /\ st.nx = 1 /\ (k <= x.old.length) /\ ((x.old.take k).all (fun s => decide (s.size <= 100)) = true)) ?_ ?_); rotate_left; (rintro U st ⟨k, rfl, q1, q3, qH0, qnx, qp0, qp1⟩); rotate_left
  · (refine ⟨_, 0, rfl, ?_⟩); (simp (disch := omega) only [go_sem, Nat.reduceBEq, p1, pH0, true_and, Int.natCast_zero])
    try simp
  by_cases hk0 : k < x.old.length
  · repeat' (first | refine zqj ?_ | ((first | refine zqh fun K J => ?_ | refine zqr fun K J => ?_); (simp (disch := omega) only [go_sem, Nat.reduceBEq, ↓reduceIte, reduceCtorEq, Nat.reduceAdd, q1, q3, qH0, qnx, z39])) | ((first | refine zqd _ rfl (fun hc => ?_) (fun hc => ?_) | refine zqm _ rfl (fun hc => ?_) (fun hc => ?_)) <;> (((try simp only [z03] at hc); (try (exfalso; omega))))) | refine zqa ?_ | refine zqb ?_ | refine zqk ?_ | refine zqn ?_ | refine zqv ?_ | refine zqx ?_ | refine zqy ?_ | refine z4f ?_ | refine zqo ?_ | refine zqu (by (simp (disch := omega) only [go_sem]); rfl) rfl ?_ | (refine J _ ?_; clear J K))
    · refine z00 ?_
      rw [show shS x.old = false from z3m (k := k) hk0 (decide_eq_false (by omega)), Bool.false_and]
    · (refine Exists.intro _ (And.intro ?_ ⟨k + 1, rfl, ?_⟩)); rotate_left; (simp (disch := omega) only [go_sem, Nat.reduceBEq, q1, q3, qH0, true_and, Int.natCast_add, Int.natCast_one]); rotate_left
      · omega
      · exact ⟨by omega, z2d hk0 qp1 (decide_eq_true (by omega))⟩
  rw [show shS x.old = true from z2h hk0 qp1, Bool.true_and]
  repeat' (first | refine zqj ?_ | ((refine zqh fun K J => ?_); (simp (disch := omega) only [go_sem, Nat.reduceBEq, ↓reduceIte, reduceCtorEq, Nat.reduceAdd, q1, q3, qH0, qnx, z39])) | ((refine zqd _ rfl (fun hc => ?_) (fun hc => ?_)) <;> (((try simp only [z03] at hc); (try (exfalso; omega))))) | refine zqa ?_ | refine zqc ?_ | refine zqv ?_ | refine zqz ?_ | refine zqp ?_ | (refine J _ ?_; clear J K))
  (refine z35 (fun U st => ∃ (k : _), U = x.new.length - k /\ st.t 1 = .ptr 0 0 /\ st.t 4 = .int .i64 k /\ st.H 0 = some (.box 34 (z0h x)) /\ st.nx = 1 /\ (k <= x.new.length) /\ ((x.new.take k).all (fun s => decide (s.size <= 100)) = true)) ?_ ?_); rotate_left; (rintro U st ⟨k, rfl, r1, r4, rH0, rnx, rp0, rp1⟩); rotate_left
  · (refine ⟨_, 0, rfl, ?_⟩); (simp (disch := omega) only [go_sem, Nat.reduceBEq, q1, qH0, true_and, Int.natCast_zero])
    try simp
  by_cases hk1 : k < x.new.length
  · repeat' (first | refine zqj ?_ | ((first | refine zqh fun K J => ?_ | refine zqr fun K J => ?_); (simp (disch := omega) only [go_sem, Nat.reduceBEq, ↓reduceIte, reduceCtorEq, Nat.reduceAdd, r1, r4, rH0, rnx, z39])) | ((first | refine zqd _ rfl (fun hc => ?_) (fun hc => ?_) | refine zqm _ rfl (fun hc => ?_) (fun hc => ?_)) <;> (((try simp only [z03] at hc); (try (exfalso; omega))))) | refine zqa ?_ | refine zqb ?_ | refine zqk ?_ | refine zqn ?_ | refine zqv ?_ | refine zqx ?_ | refine zqy ?_ | refine z4f ?_ | refine zqo ?_ | refine zqu (by (simp (disch := omega) only [go_sem]); rfl) rfl ?_ | (refine J _ ?_; clear J K))
    · refine z00 ?_
      rw [show shS x.new = false from z3m (k := k) hk1 (decide_eq_false (by omega)), Bool.false_and]
    · (refine Exists.intro _ (And.intro ?_ ⟨k + 1, rfl, ?_⟩)); rotate_left; (simp (disch := omega) only [go_sem, Nat.reduceBEq, r1, r4, rH0, true_and, Int.natCast_add, Int.natCast_one]); rotate_left
      · omega
      · exact ⟨by omega, z2d hk1 rp1 (decide_eq_true (by omega))⟩
  rw [show shS x.new = true from z2h hk1 rp1, Bool.true_and]
  repeat' (first | refine zqj ?_ | ((refine zqh fun K J => ?_); (simp (disch := omega) only [go_sem, Nat.reduceBEq, ↓reduceIte, reduceCtorEq, Nat.reduceAdd, r1, r4, rH0, rnx, z39])) | ((refine zqd _ rfl (fun hc => ?_) (fun hc => ?_)) <;> (((try simp only [z03] at hc); (try (exfalso; omega))))) | refine zqa ?_ | refine zqc ?_ | refine zqv ?_ | refine zqz ?_ | refine zqp ?_ | (refine J _ ?_; clear J K))
  (refine z35 (fun U st => ∃ (k : _), U = x.at_.length - k /\ st.t 1 = .ptr 0 0 /\ st.t 5 = .int .i64 k /\ st.H 0 = some (.box 34 (z0h x)) /\ st.nx = 1 /\ (k <= x.at_.length) /\ ((x.at_.take k).all (fun s => decide (s.label.size <= 100)) = true)) ?_ ?_); rotate_left; (rintro U st ⟨k, rfl, u1, u5, uH0, unx, up0, up1⟩); rotate_left
  · (refine ⟨_, 0, rfl, ?_⟩); (simp (disch := omega) only [go_sem, Nat.reduceBEq, r1, rH0, true_and, Int.natCast_zero])
    try simp
  by_cases hk2 : k < x.at_.length
  · repeat' (first | refine zqj ?_ | ((first | refine zqh fun K J => ?_ | refine zqr fun K J => ?_); (simp (disch := omega) only [go_sem, Nat.reduceBEq, ↓reduceIte, reduceCtorEq, Nat.reduceAdd, u1, u5, uH0, unx, z0a])) | ((first | refine zqd _ rfl (fun hc => ?_) (fun hc => ?_) | refine zqm _ rfl (fun hc => ?_) (fun hc => ?_)) <;> (((try simp only [z03] at hc); (try (exfalso; omega))))) | refine zqa ?_ | refine zqb ?_ | refine zqk ?_ | refine zqn ?_ | refine zqv ?_ | refine zqx ?_ | refine zqy ?_ | refine z4f ?_ | refine zqo ?_ | refine zqu (by (simp (disch := omega) only [go_sem]); rfl) rfl ?_ | (refine J _ ?_; clear J K))
    · refine z00 ?_
      rw [show shP x.at_ = false from z3m (k := k) hk2 (decide_eq_false (by omega)), Bool.false_and]
    · (refine Exists.intro _ (And.intro ?_ ⟨k + 1, rfl, ?_⟩)); rotate_left; (simp (disch := omega) only [go_sem, Nat.reduceBEq, u1, u5, uH0, true_and, Int.natCast_add, Int.natCast_one]); rotate_left
      · omega
      · exact ⟨by omega, z2d hk2 up1 (decide_eq_true (by omega))⟩
  rw [show shP x.at_ = true from z2h hk2 up1, Bool.true_and]
  repeat' (first | refine zqj ?_ | ((refine zqh fun K J => ?_); (simp (disch := omega) only [go_sem, Nat.reduceBEq, ↓reduceIte, reduceCtorEq, Nat.reduceAdd, u1, u5, uH0, unx, z0a])) | ((refine zqd _ rfl (fun hc => ?_) (fun hc => ?_)) <;> (((try simp only [z03] at hc); (try (exfalso; omega))))) | refine zqa ?_ | refine zqc ?_ | refine zqv ?_ | refine zqz ?_ | refine zqp ?_ | (refine J _ ?_; clear J K))
  (refine z35 (fun U st => ∃ (k : _), U = x.to.length - k /\ st.t 1 = .ptr 0 0 /\ st.t 6 = .int .i64 k /\ st.H 0 = some (.box 34 (z0h x)) /\ st.nx = 1 /\ (k <= x.to.length) /\ ((x.to.take k).all (fun s => decide (s.label.size <= 100)) = true)) ?_ ?_); rotate_left; (rintro U st ⟨k, rfl, v1, v6, vH0, vnx, vp0, vp1⟩); rotate_left
  · (refine ⟨_, 0, rfl, ?_⟩); (simp (disch := omega) only [go_sem, Nat.reduceBEq, u1, uH0, true_and, Int.natCast_zero])
    try simp
  by_cases hk3 : k < x.to.length
  · repeat' (first | refine zqj ?_ | ((first | refine zqh fun K J => ?_ | refine zqr fun K J => ?_); (simp (disch := omega) only [go_sem, Nat.reduceBEq, ↓reduceIte, reduceCtorEq, Nat.reduceAdd, v1, v6, vH0, vnx, z0a])) | ((first | refine zqd _ rfl (fun hc => ?_) (fun hc => ?_) | refine zqm _ rfl (fun hc => ?_) (fun hc => ?_)) <;> (((try simp only [z03] at hc); (try (exfalso; omega))))) | refine zqa ?_ | refine zqb ?_ | refine zqk ?_ | refine zqn ?_ | refine zqv ?_ | refine zqx ?_ | refine zqy ?_ | refine z4f ?_ | refine zqo ?_ | refine zqu (by (simp (disch := omega) only [go_sem]); rfl) rfl ?_ | (refine J _ ?_; clear J K))
    · refine z00 ?_
      rw [show shP x.to = false from z3m (k := k) hk3 (decide_eq_false (by omega)), Bool.false_and]
    · (refine Exists.intro _ (And.intro ?_ ⟨k + 1, rfl, ?_⟩)); rotate_left; (simp (disch := omega) only [go_sem, Nat.reduceBEq, v1, v6, vH0, true_and, Int.natCast_add, Int.natCast_one]); rotate_left
      · omega
      · exact ⟨by omega, z2d hk3 vp1 (decide_eq_true (by omega))⟩
  rw [show shP x.to = true from z2h hk3 vp1, Bool.true_and]
  repeat' (first | refine zqj ?_ | ((refine zqh fun K J => ?_); (simp (disch := omega) only [go_sem, Nat.reduceBEq, ↓reduceIte, reduceCtorEq, Nat.reduceAdd, v1, v6, vH0, vnx, z0a])) | ((refine zqd _ rfl (fun hc => ?_) (fun hc => ?_)) <;> (((try simp only [z03] at hc); (try (exfalso; omega))))) | refine zqa ?_ | refine zqc ?_ | refine zqv ?_ | refine zqz ?_ | refine zqp ?_ | (refine J _ ?_; clear J K))
  (refine z35 (fun U st => ∃ (k : _), U = x.by_.length - k /\ st.t 1 = .ptr 0 0 /\ st.t 7 = .int .i64 k /\ st.H 0 = some (.box 34 (z0h x)) /\ st.nx = 1 /\ (k <= x.by_.length) /\ ((x.by_.take k).all (fun y => !zk4 y && zp0 y) = true)) ?_ ?_); rotate_left; (rintro U st ⟨k, rfl, w1, w7, wH0, wnx, wp0, wp1⟩); rotate_left
  · (refine ⟨_, 0, rfl, ?_⟩); (simp (disch := omega) only [go_sem, Nat.reduceBEq, v1, vH0, true_and, Int.natCast_zero])
    try simp
  by_cases hk4 : k < x.by_.length
  · have c2 := ih x.by_[k] (List.getElem_mem hk4) (hk _ (List.getElem_mem hk4))
    obtain ⟨d0, hd0⟩ := (zgi _).1 (hk _ (List.getElem_mem hk4))
    have d5 := d0.by_
    unfold maxLen at d5
    have hz : Int.toNat 0 = 0 := rfl
    cases hbn : (x.by_[k]).by_ with
    | nil =>
      have hdp : zk4 x.by_[k] = false := by unfold zk4; rw [hbn]; rfl
      repeat' (first | refine zqj ?_ | ((first | refine zqh fun K J => ?_ | refine zqr fun K J => ?_ | refine zqs (c2) ?_); (simp (disch := omega) only [go_sem, Nat.reduceBEq, ↓reduceIte, reduceCtorEq, Nat.reduceAdd, w1, w7, wH0, wnx, z3c, hbn, List.length_nil, List.map_nil])) | ((first | refine zqd _ rfl (fun hc => ?_) (fun hc => ?_) | refine zqm _ rfl (fun hc => ?_) (fun hc => ?_)) <;> (((try simp only [z03] at hc); (try (exfalso; omega))))) | refine zqa ?_ | refine zqb ?_ | refine zqk ?_ | refine zqn ?_ | refine zqv ?_ | refine zqx ?_ | refine zqy ?_ | refine z4f ?_ | refine zqo ?_ | refine zqu (by (simp (disch := omega) only [go_sem]); rfl) rfl ?_ | (refine J _ ?_; clear J K) | (refine zqf (fun hb => ?_) (fun hb => ?_) <;> (have hb2 := hb; try simp only [z03] at hb2) <;> ((first | have F := eq_false hb2 | have F := eq_true hb2); (simp (disch := omega) only [go_sem, Nat.reduceBEq, ↓reduceIte, reduceCtorEq, Nat.reduceAdd, F, w1, w7, wH0, z3c, hbn, List.map_nil]); clear hb F; (try (exfalso; omega)))))
      · exact z00 (z3m (k := k) hk4 (by rw [hdp, ‹zp0 x.by_[k] = false›]; rfl)).symm
      · (refine Exists.intro _ (And.intro ?_ ⟨k + 1, rfl, ?_⟩)); rotate_left; (simp (disch := omega) only [go_sem, Nat.reduceBEq, w1, w7, wH0, true_and, Int.natCast_add, Int.natCast_one, Int.natCast_zero]); rotate_left
        · omega
        · exact ⟨by omega, z2d hk4 wp1 (by rw [hdp, ‹zp0 x.by_[k] = true›]; rfl)⟩
    | cons z l =>
      have hdp : zk4 x.by_[k] = decide (0 < z.by_.length) := by unfold zk4; rw [hbn]; simp
      have hzl : z.by_.length <= 9223372036854775807 := by
        have := (zgi _).1 (hd0 z (by rw [hbn]; simp))
        exact this.1.by_
      rw [hbn, List.length_cons] at d5
      repeat' (first | refine zqj ?_ | ((first | refine zqh fun K J => ?_ | refine zqr fun K J => ?_ | refine zqs (c2) ?_); (simp (disch := omega) only [go_sem, Nat.reduceBEq, ↓reduceIte, reduceCtorEq, Nat.reduceAdd, w1, w7, wH0, wnx, z3c, hbn, List.length_cons, List.map_cons])) | ((first | refine zqd _ rfl (fun hc => ?_) (fun hc => ?_) | refine zqm _ rfl (fun hc => ?_) (fun hc => ?_)) <;> (first | (cases hc; done) | ((try simp only [z03] at hc); (try (exfalso; omega))))) | refine zqa ?_ | refine zqb ?_ | refine zqk ?_ | refine zqn ?_ | refine zqv ?_ | refine zqx ?_ | refine zqy ?_ | refine z4f ?_ | refine zqo ?_ | refine zqu (by (simp (disch := omega) only [go_sem]); rfl) rfl ?_ | (refine J _ ?_; clear J K) | (refine zqf (fun hb => ?_) (fun hb => ?_) <;> (have hb2 := hb; try simp only [z03] at hb2) <;> ((first | have F := eq_false hb2 | have F := eq_true hb2); (simp (disch := omega) only [go_sem, Nat.reduceBEq, ↓reduceIte, reduceCtorEq, Nat.reduceAdd, F, w1, w7, wH0, z3c, hbn, zf9, List.map_cons]); clear hb F; (try (exfalso; omega)))))
      all_goals first
        | exact z00 (z3m (k := k) hk4 (by rw [hdp, decide_eq_true (by omega)]; rfl)).symm
        | exact z00 (z3m (k := k) hk4 (by rw [‹zp0 x.by_[k] = false›, Bool.and_false])).symm
        | skip
      all_goals
        (refine Exists.intro _ (And.intro ?_ ⟨k + 1, rfl, ?_⟩)); rotate_left; (simp (disch := omega) only [go_sem, Nat.reduceBEq, w1, w7, wH0, true_and, Int.natCast_add, Int.natCast_one]); rotate_left
        · omega
        · exact ⟨by omega, z2d hk4 wp1 (by rw [hdp, decide_eq_false (by omega), ‹zp0 x.by_[k] = true›]; rfl)⟩
  · repeat' (first | refine zqj ?_ | ((refine zqh fun K J => ?_); (simp (disch := omega) only [go_sem, Nat.reduceBEq, ↓reduceIte, reduceCtorEq, Nat.reduceAdd, w1, w7, wH0, wnx, z3c])) | ((refine zqd _ rfl (fun hc => ?_) (fun hc => ?_)) <;> (((try simp only [z03] at hc); (try (exfalso; omega))))) | refine zqc ?_ | refine zqn ?_ | refine zqv ?_ | refine zqz ?_ | refine zqp ?_ | refine zqu (by (simp (disch := omega) only [go_sem]); rfl) rfl ?_ | (refine J _ ?_; clear J K))
    exact z00 (z2h hk4 wp1).symm
theorem zn9 (u : T) (hfu : fitB u = true) (d : EIt) (hr : RdI d.it) : PC Tryz.prog 3 [z1a u, zlh d] (.bool true) := by
 have c1 := zn4 u hfu 30 (by decide) (by decide)
 have c2 := zuj d.it hr
 refine z1v 1 (by simp only [pureD.pureL, z04, zb4, Bool.and_self]) rfl (z1t [] Tryz.func3 rfl (by decide +kernel) z0k (by decide +kernel) (by simp [Tryz.ntmps3]) ?_)
 show awp _ _ (Code.seq _ _) _ _
 by_cases hb : zoo u 30 = true
 case neg =>
  rw [Bool.not_eq_true] at hb
  rw [hb] at c1
  repeat' (first | refine zqj ?_ | ((first | refine z01 (N := 3) rfl fun K J => ?_ | refine zqs (c1) ?_); (simp (disch := omega) only [go_sem, Nat.reduceBEq, ↓reduceIte, Nat.reduceAdd, Nat.reduceLeDiff])) | ((refine zqd _ rfl (fun hc => ?_) (fun hc => ?_)) <;> (first | (cases hc; done) | ((try simp only [] at hc); (try (exfalso; omega))))) | refine zqg ?_ | refine zqu (by (simp (disch := omega) only [go_sem]); rfl) rfl ?_ | (refine J _ ?_; clear J K))
  exact z00 rfl
 rw [hb] at c1
 by_cases hf : zp0 d.it = true
 case neg =>
  rw [Bool.not_eq_true] at hf
  rw [hf] at c2
  repeat' (first | refine zqj ?_ | ((first | refine z01 (N := 3) rfl fun K J => ?_ | refine zqs (c1) ?_ | refine zqs (c2) ?_); (simp (disch := omega) only [go_sem, Nat.reduceBEq, ↓reduceIte, reduceCtorEq, Nat.reduceAdd, Nat.reduceLeDiff])) | ((refine zqd _ rfl (fun hc => ?_) (fun hc => ?_)) <;> (first | (cases hc; done) | ((try simp only [] at hc); (try (exfalso; omega))))) | refine zqg ?_ | refine zqu (by (simp (disch := omega) only [go_sem]); rfl) rfl ?_ | (refine J _ ?_; clear J K))
  exact z00 rfl
 rw [hf] at c2
 have hx := few_ok d.it hf
 have c3 := zly d.it hx
 by_cases hm : zcu d.it = true
 case neg =>
  rw [Bool.not_eq_true] at hm
  rw [hm] at c3
  repeat' (first | refine zqj ?_ | ((first | refine z01 (N := 3) rfl fun K J => ?_ | refine zqs (c1) ?_ | refine zqs (c2) ?_ | refine zqs (c3) ?_); (simp (disch := omega) only [go_sem, Nat.reduceBEq, ↓reduceIte, reduceCtorEq, Nat.reduceAdd, Nat.reduceLeDiff])) | ((refine zqd _ rfl (fun hc => ?_) (fun hc => ?_)) <;> (first | (cases hc; done) | ((try simp only [] at hc); (try (exfalso; omega))))) | refine zqg ?_ | refine zqu (by (simp (disch := omega) only [go_sem]); rfl) rfl ?_ | (refine J _ ?_; clear J K))
  exact z00 rfl
 rw [hm] at c3
 by_cases hk : d.it.kind = 0 \/ d.it.kind = 6
 case neg =>
  repeat' (first | refine zqj ?_ | ((first | refine z01 (N := 3) rfl fun K J => ?_ | refine zqs (c1) ?_ | refine zqs (c2) ?_ | refine zqs (c3) ?_); (simp (disch := omega) only [go_sem, Nat.reduceBEq, ↓reduceIte, reduceCtorEq, Nat.reduceAdd, Nat.reduceLeDiff])) | ((refine zqd _ rfl (fun hc => ?_) (fun hc => ?_)) <;> (((try simp only [z03] at hc); (try (exfalso; omega))))) | refine zqg ?_ | refine zqu (by (simp (disch := omega) only [go_sem]); rfl) rfl ?_ | (refine J _ ?_; clear J K) | (refine zqf (fun hb => ?_) (fun hb => ?_) <;> (have hb2 := hb; try simp only [z03] at hb2) <;> ((first | have F := eq_false hb2 | have F := eq_true hb2); (simp (disch := omega) only [go_sem, Nat.reduceBEq, ↓reduceIte, reduceCtorEq, Nat.reduceAdd, F]); clear hb F; (try (exfalso; omega)))))
  exact z00 rfl
 have hst := zl7 hb
 have hfb : zum u 30 = true := by unfold zoo at hb; rw [Bool.and_eq_true] at hb; exact hb.1
 obtain ⟨z1, z2, z3⟩ := zpi (most := 30) (by decide) (by decide) hfb
 obtain ⟨b, _⟩ := (zd8 d.it).1 hx
 have m1 : 1000 <= maxLen := by unfold maxLen; omega
 have c4 := zfc u z1 (by omega) (by omega) d.it (by have := b.at_.1; omega) (fun s hs => by have := b.at_.2 s hs; omega) (by have := b.to.1; omega) (fun s hs => by have := b.to.2 s hs; omega)
 have c5 := zxs u hst z1 (by omega) d hx hk
 have c6 := zk7 u z1 (by omega) d.it.at_ (by have := b.at_.1; omega) fun s hs => by have := b.at_.2 s hs; omega
 unfold zu8 at c4
 repeat' (first | refine zqj ?_ | ((refine z01 (N := 1) rfl fun K J => ?_); (simp (disch := omega) only [go_sem, Nat.reduceBEq, Nat.reduceAdd])) | (refine J _ ?_; clear J K))
 (refine z3e (fun st => st.t 2 = .ptr 0 0 /\ st.t 3 = .ptr 1 0 /\ st.H 0 = some (.box 27 (z05 u)) /\ st.H 1 = some (.box 36 (z0i d)) /\ st.nx = 2) ?_ ?_); rotate_left; (rintro st ⟨p2, p3, pH0, pH1, pnx⟩); rotate_left
 ·repeat' (first | ((first | refine zqh fun K J => ?_ | refine zqs (c1) ?_ | refine zqs (c2) ?_ | refine zqs (c3) ?_); (simp (disch := omega) only [go_sem, Nat.reduceBEq, ↓reduceIte, reduceCtorEq, Nat.reduceAdd, Nat.reduceLeDiff])) | ((refine zqm _ rfl (fun hc => ?_) (fun hc => ?_)) <;> (first | (cases hc; done) | ((try simp only [z03] at hc); (try (exfalso; omega))))) | refine zqk ?_ | (refine J _ ?_; clear J K) | (refine zqf (fun hb => ?_) (fun hb => ?_) <;> (have hb2 := hb; try simp only [z03] at hb2) <;> ((first | have F := eq_false hb2 | have F := eq_true hb2); (simp (disch := omega) only [go_sem, Nat.reduceBEq, ↓reduceIte, reduceCtorEq, Nat.reduceAdd, F]); clear hb F; (try (exfalso; omega)))))
  all_goals ((refine z43 ?_); (simp (disch := omega) only [go_sem, Nat.reduceBEq, and_self]))
 by_cases hd : (doR u d).2 = 0
 case neg =>
  have hdd : decide ((doR u d).2 = 0) = false := decide_eq_false hd
  repeat' (first | refine zqj ?_ | ((first | refine zqh fun K J => ?_ | refine zqs (c4) ?_ | refine zqs (c5) ?_); (simp (disch := omega) only [go_sem, Nat.reduceBEq, ↓reduceIte, reduceCtorEq, Nat.reduceAdd, Nat.reduceLeDiff, p2, p3, pH0, pH1, pnx])) | ((refine zqd _ rfl (fun hc => ?_) (fun hc => ?_)) <;> (((try simp only [z03] at hc); (try (exfalso; omega))))) | refine zqg ?_ | refine zqu (by (simp (disch := omega) only [go_sem]); rfl) rfl ?_ | (refine J _ ?_; clear J K))
  exact z00 rfl
 obtain ⟨y1, y2⟩ := zsz hst z1 hm hk hd b.unit.1 (by have := b.unit.2.2; omega)
 obtain ⟨e0, e1, n, e2, hlt, e3⟩ := zz2 hst hm hk hd
 generalize zhd u d.it = D at *
 obtain ⟨⟨par, at_⟩, e⟩ := D
 simp only at e0 e1 e2 e3 hlt c4
 subst e0 e2
 rw [hd] at c5
 generalize (doR u d).1 = v at *
 have c7 := z8x par v y1 (by omega)
 have hl := ((z1q _).1 (zbd par v y1)).2.2.2.2.2.1
 repeat' (first | refine zqj ?_ | ((first | refine z01 (N := 8) rfl fun K J => ?_ | refine zqs (c4) ?_ | refine zqs (c5) ?_); (simp (disch := omega) only [go_sem, Nat.reduceBEq, ↓reduceIte, reduceCtorEq, Nat.reduceAdd, Nat.reduceLeDiff, p2, p3, pH0, pH1, pnx])) | ((refine zqd _ rfl (fun hc => ?_) (fun hc => ?_)) <;> (first | (cases hc; done) | ((try simp only [] at hc); (try (exfalso; omega))))) | refine zqb ?_ | (refine J _ ?_; clear J K))
 by_cases h6 : d.it.kind = 6
 ·rw [if_pos h6] at e3
  repeat' (first | ((first | refine zqh fun K J => ?_ | refine zqe (by decide +kernel) fun K J => ?_ | refine zqs (c6) ?_ | refine zqs (c7) ?_); (simp (disch := omega) only [go_sem, Nat.reduceBEq, ↓reduceIte, reduceCtorEq, Nat.reduceAdd, Nat.reduceLeDiff, p2, p3, pH0, pH1, z0a, h6])) | ((refine zqd _ rfl (fun hc => ?_) (fun hc => ?_)) <;> (first | (cases hc; done) | ((try simp only [] at hc); (try (exfalso; omega))))) | refine zqn ?_ | refine zqu (by (simp (disch := omega) only [go_sem]); rfl) rfl ?_ | (refine J _ ?_; clear J K) | (refine zqf (fun hb => ?_) (fun hb => ?_) <;> (have hb2 := hb; try simp only [z03] at hb2) <;> ((first | have F := eq_false hb2 | have F := eq_true hb2); (simp (disch := omega) only [go_sem, Nat.reduceBEq, ↓reduceIte, reduceCtorEq, Nat.reduceAdd, Nat.reduceLeDiff, F, z0e]); clear hb F; (try (exfalso; omega)))))
  first | exact z00 (decide_eq_true e3) | (refine z00 ?_; simp [e3]; done)
 ·rw [if_neg h6] at e3
  repeat' (first | ((first | refine zqh fun K J => ?_ | refine zqe (by decide +kernel) fun K J => ?_ | refine zqs (c7) ?_); (simp (disch := omega) only [go_sem, Nat.reduceBEq, ↓reduceIte, reduceCtorEq, Nat.reduceAdd, Nat.reduceLeDiff, p3, pH1])) | ((refine zqd _ rfl (fun hc => ?_) (fun hc => ?_)) <;> (((try simp only [z03] at hc); (try (exfalso; omega))))) | refine zqb ?_ | refine zqn ?_ | refine zqu (by (simp (disch := omega) only [go_sem]); rfl) rfl ?_ | (refine J _ ?_; clear J K) | (refine zqf (fun hb => ?_) (fun hb => ?_) <;> (have hb2 := hb; try simp only [z03] at hb2) <;> ((first | have F := eq_false hb2 | have F := eq_true hb2); (simp (disch := omega) only [go_sem, Nat.reduceBEq, ↓reduceIte, reduceCtorEq, Nat.reduceAdd, Nat.reduceLeDiff, F, z0e]); clear hb F; (try (exfalso; omega)))))
  first | exact z00 (decide_eq_true e3) | (refine z00 ?_; simp [e3]; done)
end
end Go.Proofs.YtppebcifiejplaaGreat
