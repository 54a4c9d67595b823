import Derived.Test.YtfechgagcgbldaaDoorWE
/-
 Lemmas of the claim. No condition but those that each names.
-/
set_option linter.unusedSimpArgs false
set_option linter.unusedVariables false
set_option maxHeartbeats 8000000
set_option maxRecDepth 100000
set_option linter.unusedSectionVars false
namespace Go.Proofs.YtfechgagcgbldaaDoor
open _root_.Go.Proofs.Tryd
section
open Abs Facts Tr
attribute [local irreducible] awp
set_option maxRecDepth 100000
def z8m (A B : T) : List HObj := if zdr A B = true then [.map (mapI encPl (plcs A)), .map (mapI encPl (plcs B))] else []
def za1 (A B : T) : D := .tup [.agg (if zdr A B = true then cellsPr A B 0 1 else zeroPr), .bool (zdr A B)]
def zfb (A : T) (e : Idv × Plc) : Bool := !z16 e.1 A || decide ((findR e.1 A).1.kind = e.2.unit.kind)
theorem zyj {A B : T} (na : (idsT A).Nodup) (nb : (idsT B).Nodup) (h : ∀ (i : Nat) (e : Idv × Plc), (plcs B)[i]? = some e -> zfb A e = true) : z5b A B = true := by
 unfold z5b
 rw [List.all_eq_true]
 intro x hx
 by_cases hB : z16 x.id B = true
 ·have hm : x.id ∈ idsT B := by rw [z14, decide_eq_true_eq] at hB; exact hB
  obtain ⟨p, h1, h2, _⟩ := z002 nb hm
  obtain ⟨i, hi, e⟩ := List.getElem_of_mem h1
  have h3 := h i _ (by rw [List.getElem?_eq_getElem hi, e])
  unfold zfb at h3
  have hA : z16 x.id A = true := by rw [z14, decide_eq_true_eq]; exact List.mem_map.2 ⟨x, hx, rfl⟩
  simp only [hA, Bool.not_true, Bool.false_or, decide_eq_true_eq, h2] at h3
  rw [z0x na hx rfl] at h3
  simp only at h3
  simp [h3]
 ·simp [hB]
theorem zyk {A B : T} (na : (idsT A).Nodup) (nb : (idsT B).Nodup) {i : Nat} {e : Idv × Plc} (he : (plcs B)[i]? = some e) (h : zfb A e = false) : z5b A B = false := by
 obtain ⟨h1, h2⟩ := zt5 B e (List.mem_of_getElem? he)
 cases O : z5b A B with
 | false => rfl
 | true =>
  unfold z5b at O
  rw [List.all_eq_true] at O
  unfold zfb at h
  simp only [Bool.or_eq_false_iff, Bool.not_eq_false', decide_eq_false_iff_not] at h
  obtain ⟨hA, hne⟩ := h
  have hx := z3x (id := e.1) (u := A) hA
  have hi := zbq (id := e.1) (t := A) hA
  have h3 := O _ hx
  rw [hi] at h3
  have hB : z16 e.1 B = true := by rw [z14, decide_eq_true_eq, <- h2]; exact List.mem_map.2 ⟨_, h1, rfl⟩
  rw [hB, z0x nb h1 h2] at h3
  simp only [Bool.not_true, Bool.false_or, decide_eq_true_eq] at h3
  exact absurd h3.symm hne
theorem zup {A B : T} {l : List Nat} {i : Nat} {e : Idv × Plc} (h : ∀ i ∈ l, ∀ e, (plcs B)[i]? = some e -> zfb A e = true) (he : (plcs B)[i]? = some e) (O : zfb A e = true) : ∀ i_1 ∈ l ++ [i], ∀ e, (plcs B)[i_1]? = some e -> zfb A e = true := by
 intro j hj e' he'
 rcases List.mem_append.1 hj with hj | hj
 ·exact h j hj e' he'
 ·rw [List.mem_singleton] at hj
  subst hj
  rw [he, Option.some.injEq] at he'
  rw [<- he']; exact O
theorem ren_Pr (σ : Nat -> Nat) (A B : T) (p q : Nat) (b : Bool) : renD σ (.tup [.agg (cellsPr A B p q), .bool b]) = .tup [.agg (cellsPr A B (σ p) (σ q)), .bool b] := by
 rw [z2b, z2b]; rfl
theorem ok_held (A B : T) : okD (z8m A B).length (za1 A B) = true := by
 unfold z8m za1
 by_cases h : zdr A B = true
 ·rw [if_pos h, if_pos h, z2b]
  simp [okD, okD.okL, pureD]
  exact ⟨z24 _, z24 _, z5q _, z24 _, z24 _, z5q _⟩
 ·rw [if_neg h, if_neg h]; rfl
theorem zr7 (A B : T) : ∀ o ∈ z8m A B, z6t o = true := by
 intro o ho
 unfold z8m at ho
 split at ho
 ·simp only [List.mem_cons, List.not_mem_nil, or_false] at ho
  rcases ho with rfl | rfl <;> exact zh7 zc7 _
 ·cases ho
set_option maxHeartbeats 16000000 in
theorem zyl (A B : T) (fa : Fit50 A) (fb : Fit50 B) : OC prog 57 [z1o A, z1o B] (z8m A B) (za1 A B) := by
 have c1 := zof A fa
 have c2 := zof B fb
 have c3 := zf9 A fa.sz
 have c4 := zf9 B fb.sz
 refine zid (by simp only [pureD.pureL, z0h, Bool.and_self]) (ok_held A B) (zr7 A B) ?_
 refine z75 func57 rfl (by decide +kernel) (by simp [ntmps57]) ?_
 rw [show Tryd.f57.results.toList = [.cell 4 100, .tmp 5] from rfl]
 refine Sem.seq (Sem.walk (own := []) z1v (by decide +kernel) ?_)
 repeat' (first | ((refine zqr fun K hK => ?_); (simp (disch := omega) only [go_sem, Nat.reduceBEq, Nat.reduceAdd])) | refine zqv ?_ | (refine hK _ ?_; clear hK K))
 refine Sem.seq (Sem.walk (own := []) z1v (by decide +kernel) ?_)
 have hcm : zdr A B = (z3k A && (z3k B && z5b A B)) := rfl
 cases ha : z3k A
 ·rw [ha] at c1 hcm
  rw [Bool.false_and] at hcm
  have e1 : z8m A B = [] := by unfold z8m; rw [hcm]; rfl
  have e2 : za1 A B = .tup [.agg zeroPr, .bool false] := by unfold za1; rw [hcm]; rfl
  rw [e1, e2]
  repeat' (first | ((first | refine zqh fun K hK => ?_ | refine zqs (c1) ?_); (simp (disch := omega) only [go_sem, Nat.reduceBEq, ↓reduceIte, Nat.reduceAdd, Nat.reduceLeDiff])) | ((refine zqm _ rfl (fun hc => ?_) (fun hc => ?_)) <;> (first | (cases hc; done) | ((try simp only [] at hc); (try omega)))) | refine zqn ?_ | refine zqx ?_ | refine zqu (by (simp (disch := omega) only [go_sem, Nat.reduceBEq, ↓reduceIte, Nat.reduceLeDiff]); rfl) rfl ?_ | (refine hK _ ?_; clear hK K))
  exact ⟨fun j => j, fun i j hi => (by cases hi), rfl, fun j hj => (by cases hj)⟩
 rw [ha] at c1 hcm
 cases hb2 : z3k B
 ·rw [hb2] at c2 hcm
  rw [Bool.false_and, Bool.and_false] at hcm
  have e1 : z8m A B = [] := by unfold z8m; rw [hcm]; rfl
  have e2 : za1 A B = .tup [.agg zeroPr, .bool false] := by unfold za1; rw [hcm]; rfl
  rw [e1, e2]
  repeat' (first | ((first | refine zqh fun K hK => ?_ | refine zqs (c1) ?_ | refine zqs (c2) ?_); (simp (disch := omega) only [go_sem, Nat.reduceBEq, ↓reduceIte, Nat.reduceAdd, Nat.reduceLeDiff])) | ((refine zqm _ rfl (fun hc => ?_) (fun hc => ?_)) <;> (first | (cases hc; done) | ((try simp only [] at hc); (try omega)))) | refine zqn ?_ | refine zqx ?_ | refine zqu (by (simp (disch := omega) only [go_sem, Nat.reduceBEq, ↓reduceIte, Nat.reduceLeDiff]); rfl) rfl ?_ | (refine hK _ ?_; clear hK K))
  exact ⟨fun j => j, fun i j hi => (by cases hi), rfl, fun j hj => (by cases hj)⟩
 rw [hb2] at c2 hcm
 rw [Bool.true_and, Bool.true_and] at hcm
 repeat' (first | ((first | refine zqh fun K hK => ?_ | refine zqs (c1) ?_ | refine zqs (c2) ?_); (simp (disch := omega) only [go_sem, Nat.reduceBEq, ↓reduceIte, Nat.reduceAdd, Nat.reduceLeDiff])) | ((refine zqm _ rfl (fun hc => ?_) (fun hc => ?_)) <;> (first | (cases hc; done) | ((try simp only [] at hc); (try omega)))) | refine zqk ?_ | refine zqv ?_ | (refine hK _ ?_; clear hK K))
 refine Sem.cutS (fun st => ∃ j1 j2 jb : Nat, (j1 = 4 /\ j2 = 5 /\ jb = 3 \/ j1 = 3 /\ j2 = 5 /\ jb = 4 \/ j1 = 3 /\ j2 = 4 /\ jb = 5) /\ st.nx = 6 /\ st.t 4 = .ptr 2 0 /\ st.t 6 = .ptr jb 0 /\ st.H 2 = some (.box 100 zeroPr) /\ st.H jb = some (.box 100 (cellsPr A B j1 j2)) /\ st.H j1 = some (.map (mapI encPl (plcs A))) /\ st.H j2 = some (.map (mapI encPl (plcs B)))) (zzq (own := [3000020, 3000021, 3000022, 3000024, 4000023, 4000025]) z1v (by decide +kernel) [(0, 1), (0, 2), (0, 3), (0, 4), (0, 5), (0, 7), (1, 0), (1, 2), (1, 3), (1, 4), (1, 5), (1, 7), (2, 0), (2, 1), (2, 4), (2, 5), (2, 7), (4, 0), (4, 1), (4, 2), (4, 3), (4, 7), (7, 6)] (.fork [0, 1, 2, 4] (.run [7, 3, 5, 6, 8]) (.fork [3] (.run [7, 5, 6, 8]) (.run [5, 7, 6, 8]))) (by decide +kernel) (by decide +kernel) ?_) ?_
 ·refine zbs ?_ rfl
  (simp (disch := omega) only [go_sem, Nat.reduceBEq, Nat.reduceEqDiff, ↓reduceIte, Nat.reduceAdd, Nat.reduceLeDiff, z6y, zm0, List.map_cons, List.map_nil])
  refine ⟨?_, ?_⟩
  ·refine z37 ?_ rfl
   (simp (disch := omega) only [go_sem, Nat.reduceBEq, ↓reduceIte, Nat.reduceAdd, z6y, zm0, List.map_cons, List.map_nil])
   refine z9e c3 rfl rfl rfl ?_
   (simp (disch := omega) only [go_sem, Nat.reduceBEq, Nat.reduceAdd])
   refine z9e c4 rfl rfl rfl ?_
   (simp (disch := omega) only [go_sem, Nat.reduceBEq, Nat.reduceEqDiff, ↓reduceIte, Nat.reduceAdd, Nat.reduceLeDiff])
   refine ⟨_, SealTo.refl _, 4, 5, 3, .inl ⟨rfl, rfl, rfl⟩, ?_⟩
   (simp (disch := omega) only [go_sem, Nat.reduceBEq, and_self])
  ·refine zbs ?_ rfl
   (simp (disch := omega) only [go_sem, Nat.reduceBEq, z6y, zm0, List.map_cons, List.map_nil])
   refine z9e c3 rfl rfl rfl ?_
   (simp (disch := omega) only [go_sem, Nat.reduceAdd])
   refine ⟨?_, ?_⟩
   ·refine z37 ?_ rfl
    (simp (disch := omega) only [go_sem, Nat.reduceBEq, ↓reduceIte, Nat.reduceAdd, z6y, zm0, List.map_cons, List.map_nil])
    refine z9e c4 rfl rfl rfl ?_
    (simp (disch := omega) only [go_sem, Nat.reduceBEq, Nat.reduceEqDiff, ↓reduceIte, Nat.reduceAdd, Nat.reduceLeDiff])
    refine ⟨_, SealTo.refl _, 3, 5, 4, .inr (.inl ⟨rfl, rfl, rfl⟩), ?_⟩
    (simp (disch := omega) only [go_sem, Nat.reduceBEq, and_self])
   ·refine z37 ?_ rfl
    (simp (disch := omega) only [go_sem, Nat.reduceBEq, z6y, zm0, List.map_cons, List.map_nil])
    refine z9e c4 rfl rfl rfl ?_
    (simp (disch := omega) only [go_sem, Nat.reduceBEq, Nat.reduceEqDiff, ↓reduceIte, Nat.reduceAdd, Nat.reduceLeDiff])
    refine ⟨_, SealTo.refl _, 3, 4, 5, .inr (.inr ⟨rfl, rfl, rfl⟩), ?_⟩
    (simp (disch := omega) only [go_sem, Nat.reduceBEq, and_self])
 rintro st ⟨j1, j2, jb, hj, hnx, h4, h6, H2, Hb, H1, HQ⟩
 have na := ((z1g A).1 ha).2.2
 have nb := ((z1g B).1 hb2).2.2
 have nk : ((plcs B).map (·.1)).Nodup := by rw [zds]; exact nb
 have d1 : (j2 == 6) = false := z1x (by omega)
 have d2 : (2 == j2) = false := z1x (by omega)
 have d3 : (jb == 6) = false := z1x (by omega)
 have d4 : (jb == j2) = false := z1x (by omega)
 have d5 : (j1 == 6) = false := z1x (by omega)
 have d6 : (j1 == j2) = false := z1x (by omega)
 have d7 : (j2 == 2) = false := z1x (by omega)
 have d8 : (j1 == 2) = false := z1x (by omega)
 have d9 : (jb == 2) = false := z1x (by omega)
 have lt2 : j2 < 6 := by omega
 have lt1 : j1 < 6 := by omega
 have ltb : jb < 6 := by omega
 refine Sem.seq (Sem.rangeL (own := []) 2 z1v rfl rfl rfl ⟨rfl, rfl, rfl⟩ ⟨rfl, rfl, rfl⟩ ⟨rfl, rfl, rfl⟩ ⟨rfl, rfl, rfl⟩ mapT98 (by decide +kernel) (by decide +kernel) (by decide +kernel) ?_)
 (simp (disch := omega) only [go_sem, Nat.reduceBEq, ↓reduceIte, reduceCtorEq, Nat.reduceAdd, h6, Hb, List.take_succ_cons, List.take_zero, List.map_cons, List.map_nil])
 refine ⟨j2, _, rfl, HQ, fun M J => ⟨fun l s => s.H j2 = some M /\ s.H 6 = some (J l) /\ s.t 29 = .it 6 /\ s.t 4 = .ptr 2 0 /\ s.t 6 = .ptr jb 0 /\ s.H 2 = some (.box 100 zeroPr) /\ s.H jb = some (.box 100 (cellsPr A B j1 j2)) /\ s.H j1 = some (.map (mapI encPl (plcs A))) /\ 7 <= s.nx /\ ∀ i ∈ l, ∀ e, (plcs B)[i]? = some e -> zfb A e = true, ?_, ?_, ?_, ?_⟩⟩
 ·rintro l s ⟨g1, g2, g3, _⟩
  refine ⟨g1, ?_, ?_⟩
  ·(simp (disch := omega) only [go_sem, hnx])
   exact g2
  ·(simp (disch := omega) only [go_sem, hnx])
   exact g3
 ·unfold zpt
  (simp (disch := omega) only [go_sem, Nat.reduceBEq, Nat.reduceAdd, Nat.reduceLeDiff, hnx, h4, h6, d1, d2, d3, d4, d5, d6, H2, Hb, H1, and_true, List.not_mem_nil, false_implies, implies_true])
 ·rintro l s i k v ⟨g1, g2, g3, g4, g5, g6, g7, g8, g9, g10⟩ hnd hlt hil hkv
  obtain ⟨e, he, rfl, rfl⟩ := zt6 nk hkv
  obtain ⟨i1, p1⟩ := e
  have s2 := z01 (show 2 < s.nx by omega)
  have s6 := z01 (show 6 < s.nx by omega)
  have sj1 := z01 (show j1 < s.nx by omega)
  have sj2 := z01 (show j2 < s.nx by omega)
  have sjb := z01 (show jb < s.nx by omega)
  unfold zpu
  rcases zi7 na i1 with ⟨hA, p2, hpu, _, n, hf⟩ | ⟨hA, hf⟩
  ·by_cases O : p2.unit.kind = p1.unit.kind
   ·(simp (disch := omega) only [go_sem, Nat.reduceBEq, ↓reduceIte, Nat.reduceAdd, Nat.reduceLeDiff, hnx])
    repeat' (first | ((refine zqh fun K hK => ?_); (simp (disch := omega) only [go_sem, Nat.reduceBEq, ↓reduceIte, reduceCtorEq, Nat.reduceAdd, Nat.reduceLeDiff, g5, g7, g8, d3, d5, s2, s6, sj1, sjb, hf, O])) | ((refine zqm _ rfl (fun hc => ?_) (fun hc => ?_)) <;> (first | (cases hc; done) | ((try simp only [] at hc); (try omega)))) | refine zqk ?_ | (refine hK _ ?_; clear hK K))
    refine zer ?_
    (simp (disch := omega) only [go_sem, Nat.reduceBEq, Nat.reduceLeDiff, g1, g2, g3, g4, g5, g6, g7, g8, d1, d3, d5, s2, s6, sj1, sj2, sjb, true_and])
    exact ⟨by omega, zup g10 he (by unfold zfb; rw [hA, <- hpu, O]; simp)⟩
   ·(simp (disch := omega) only [go_sem, Nat.reduceBEq, ↓reduceIte, Nat.reduceAdd, Nat.reduceLeDiff, hnx])
    repeat' (first | ((refine zqh fun K hK => ?_); (simp (disch := omega) only [go_sem, Nat.reduceBEq, ↓reduceIte, reduceCtorEq, Nat.reduceAdd, Nat.reduceLeDiff, g4, g5, g6, g7, g8, d3, d5, s2, s6, sj1, sjb, hf, O])) | ((refine zqm _ rfl (fun hc => ?_) (fun hc => ?_)) <;> (first | (cases hc; done) | ((try simp only [] at hc); (try omega)))) | refine zqn ?_ | (refine hK _ ?_; clear hK K))
    refine z000 ?_
    have hkb : z5b A B = false := zyk na nb he (by unfold zfb; rw [hA, <- hpu]; simp [O])
    rw [hkb] at hcm
    have e1 : z8m A B = [] := by unfold z8m; rw [hcm]; rfl
    have e2 : za1 A B = .tup [.agg zeroPr, .bool false] := by unfold za1; rw [hcm]; rfl
    rw [e1, e2]
    repeat' (first | refine zqx ?_ | refine zqu (by (simp (disch := omega) only [go_sem, Nat.reduceBEq, ↓reduceIte, Nat.reduceLeDiff, g4, g6, s2]); rfl) rfl ?_)
    exact ⟨fun j => j, fun i j hi => (by cases hi), rfl, fun j hj => (by cases hj)⟩
  ·(simp (disch := omega) only [go_sem, Nat.reduceBEq, ↓reduceIte, Nat.reduceAdd, Nat.reduceLeDiff, hnx])
   repeat' (first | ((refine zqh fun K hK => ?_); (simp (disch := omega) only [go_sem, Nat.reduceBEq, ↓reduceIte, reduceCtorEq, Nat.reduceAdd, Nat.reduceLeDiff, g5, g7, g8, d3, d5, s2, s6, sj1, sjb, hf])) | ((refine zqm _ rfl (fun hc => ?_) (fun hc => ?_)) <;> (first | (cases hc; done) | ((try simp only [] at hc); (try omega)))) | refine zqk ?_ | (refine hK _ ?_; clear hK K))
   refine zer ?_
   (simp (disch := omega) only [go_sem, Nat.reduceBEq, Nat.reduceLeDiff, g1, g2, g3, g4, g5, g6, g7, g8, d1, d3, d5, s2, s6, sj1, sj2, sjb, true_and])
   exact ⟨by omega, zup g10 he (by unfold zfb; rw [hA]; rfl)⟩
 ·rintro l s ⟨g1, g2, g3, g4, g5, g6, g7, g8, g9, g10⟩ hnd hlt hall
  unfold zjy
  refine zqv (Sem.walk (own := []) z1v (by decide +kernel) ?_)
  repeat' (first | ((refine zqh fun K hK => ?_); (simp (disch := omega) only [go_sem, Nat.reduceBEq, ↓reduceIte, Nat.reduceAdd, Nat.reduceLeDiff, g4, g5, g6, g7, d2, d4])) | refine zqn ?_ | refine zqu (by (simp (disch := omega) only [go_sem, Nat.reduceBEq, ↓reduceIte, Nat.reduceLeDiff, g4, g6, d2]); rfl) rfl ?_ | (refine hK _ ?_; clear hK K))
  have hkt : z5b A B = true := zyj na nb fun i e he => by
   have hi := (List.getElem?_eq_some_iff.1 he).1
   exact g10 i (hall i (by rw [zk2 nk]; exact hi)) e he
  rw [hkt] at hcm
  have e1 : z8m A B = [.map (mapI encPl (plcs A)), .map (mapI encPl (plcs B))] := by unfold z8m; rw [hcm]; rfl
  have e2 : za1 A B = .tup [.agg (cellsPr A B 0 1), .bool true] := by unfold za1; rw [hcm]; rfl
  rw [e1, e2]
  refine ⟨fun j => if j = 0 then j1 else j2, fun i j hi hj h => ?_, ?_, fun j hj => ?_⟩
  ·simp only [List.length_cons, List.length_nil] at hi hj
   simp only at h
   split at h <;> split at h <;> omega
  ·rw [ren_Pr]; rfl
  ·simp only [List.length_cons, List.length_nil] at hj
   rcases (show j = 0 \/ j = 1 by omega) with rfl | rfl
   ·(simp (disch := omega) only [go_sem, ↓reduceIte, g8, d6, d8])
   ·(simp (disch := omega) only [go_sem, ↓reduceIte, reduceCtorEq, d7])
namespace Abs
theorem zjl {P : Program} {n : FuncId} {args cap : List D} {g : List Oper -> (St -> Prop) -> St -> Prop} {rest : List Oper} {K : St -> Prop} {st : St} {dst : Option Nat} {objs : List HObj} {r : D} (h : AC P n (args ++ cap) st.H st.nx fun r' H2 n2 => r' = renD (fun j => st.nx + j) r /\ H2 = zjk st.H st.nx objs /\ n2 = st.nx + objs.length)
  (O : g rest K ((st.withH (zjk st.H st.nx objs) (st.nx + objs.length)).put dst (renD (fun j => st.nx + j) r))) : zg5 P (.fn n cap) args g rest K st dst :=
 z3g (h.mono fun r' H2 n2 ⟨h1, h2, h3⟩ => by subst h1; subst h2; subst h3; exact O)
end Abs
namespace Tr
theorem zjm {S l l' : List Idv} {ls : List Nat} {i : Nat} {c : Idv} (h : ∀ x, x ∈ l' ↔ x ∈ l \/ ∃ j ∈ ls, S[j]? = some x) (hc : S[i]? = some c) : (c ∈ l' -> ∀ x, x ∈ l' ↔ x ∈ l \/ ∃ j ∈ ls ++ [i], S[j]? = some x) /\ (∀ x, x ∈ l' ++ [c] ↔ x ∈ l \/ ∃ j ∈ ls ++ [i], S[j]? = some x) := by
 have key : ∀ x, (∃ j ∈ ls ++ [i], S[j]? = some x) ↔ (∃ j ∈ ls, S[j]? = some x) \/ x = c := fun x => by
  constructor
  ·rintro ⟨j, hj, e⟩
   rcases List.mem_append.1 hj with hj | hj
   ·exact .inl ⟨j, hj, e⟩
   ·rw [List.mem_singleton] at hj; subst hj; rw [hc, Option.some.injEq] at e; exact .inr e.symm
  ·rintro (⟨j, hj, e⟩ | rfl)
   ·exact ⟨j, List.mem_append_left _ hj, e⟩
   ·exact ⟨i, by simp, hc⟩
 refine ⟨fun hm x => ?_, fun x => ?_⟩
 ·rw [key, h x]
  constructor
  ·rintro (h1 | h1)
   ·exact .inl h1
   ·exact .inr (.inl h1)
  ·rintro (h1 | h1 | rfl)
   ·exact .inl h1
   ·exact .inr h1
   ·exact (h x).1 hm
 ·rw [key, List.mem_append, List.mem_singleton, h x, or_assoc]
def zpk (A u : T) (l out : List Idv) : List Idv := if z16 u.id A = true /\ ¬ u.kind = 0 /\ u.id ∉ l then out ++ [u.id] else out
end Tr
set_option maxHeartbeats 16000000 in
theorem zjn (A B u : T) (pc : List D) (hpc : pc.length = 8) (x s sm o ow p q : Nat) (na : (idsT A).Nodup) (hu : szB u = true) (hk0 : ∀ k ∈ u.kids, ¬ A.id = k.id) (hnk : (u.kids.map T.id).Nodup) (l out : List Idv) (hl : l.Nodup) (hout : out.length <= 1000000) (H : HM) (nx : Nat)
  (hx : x < nx) (hs : s < nx) (hsm : sm < nx) (ho : o < nx) (how : ow < nx) (hp : p < nx) (hHx : H x = some (.box 100 (cellsPr A B p q))) (hHs : H s = some (.box 55 [.mp sm])) (hHsm : H sm = some (.map (setI l)))
  (hHo : H o = some (.box 39 [.osl ow out.length])) (hHow : H ow = some (.row 23 out.length (out.flatMap cellsId))) (hHp : H p = some (.map (mapI encPl (plcs A)))) (hps : p ≠ sm) (hso : s ≠ o) (hxs : x ≠ s) :
  AC prog 77 [z1o u, .agg pc, .ptr x 0, .ptr s 0, .ptr o 0] H nx fun r' H' nx' => r' = .tup [] /\ nx' = nx /\ ∃ l' : List Idv, l'.Nodup /\ (∀ i, i ∈ l' ↔ i ∈ l \/ i ∈ z29 A u) /\ H' sm = some (.map (setI l')) /\
   H' o = some (.box 39 [.osl ow (zpk A u l' out).length]) /\ H' ow = some (.row 23 (zpk A u l' out).length ((zpk A u l' out).flatMap cellsId)) /\ ∀ id, id < nx -> id ≠ sm -> id ≠ o -> id ≠ ow -> H' id = H id := by
 have a1 : x ≠ sm := fun e => by subst e; rw [hHx] at hHsm; cases hHsm
 have a2 : s ≠ sm := fun e => by subst e; rw [hHs] at hHsm; cases hHsm
 have a3 : o ≠ sm := fun e => by subst e; rw [hHo] at hHsm; cases hHsm
 have a4 : ow ≠ sm := fun e => by subst e; rw [hHow] at hHsm; cases hHsm
 have a5 : ow ≠ o := fun e => by subst e; rw [hHow] at hHo; cases hHo
 have a6 : p ≠ o := fun e => by subst e; rw [hHp] at hHo; cases hHo
 have a7 : p ≠ ow := fun e => by subst e; rw [hHp] at hHow; cases hHow
 have a8 : x ≠ ow := fun e => by subst e; rw [hHx] at hHow; cases hHow
 have a9 : s ≠ ow := fun e => by subst e; rw [hHs] at hHow; cases hHow
 have d1 := z1x a1
 have d2 := z1x a2
 have d3 := z1x a3
 have d4 := z1x a4
 have d5 := z1x a5
 have d6 := z1x hps
 have d7 := z1x hso
 have d8 := z1x (Ne.symm a5)
 have d9 := z1x (Ne.symm a3)
 have d10 := z1x (Ne.symm a4)
 have d11 := z1x (Ne.symm hso)
 have e1 := z01 hx
 have e2 := z01 hs
 have e3 := z01 hsm
 have e4 := z01 ho
 have e5 := z01 how
 have e6 := z01 hp
 suffices h : AC prog 77 [z1o u, .agg pc, .ptr x 0, .ptr s 0, .ptr o 0] H nx fun r' H' _ => r' = .tup [] /\ ∃ l' : List Idv, l'.Nodup /\ (∀ i, i ∈ l' ↔ i ∈ l \/ i ∈ z29 A u) /\ H' sm = some (.map (setI l')) /\
   H' o = some (.box 39 [.osl ow (zpk A u l' out).length]) /\ H' ow = some (.row 23 (zpk A u l' out).length ((zpk A u l' out).flatMap cellsId)) /\ ∀ id, id < nx -> id ≠ sm -> id ≠ o -> id ≠ ow -> H' id = H id by
  refine (z9z h ?_).mono ?_
  ·rintro r H' nx' ⟨rfl, l', _, _, h3, h4, h5, h6⟩
   refine ⟨rfl, fun id q hid hq => ?_⟩
   by_cases c1 : id = sm
   ·subst c1; rw [h3] at hq; cases hq; exact .inr (zdu (zc9 _))
   by_cases c2 : id = o
   ·subst c2; rw [h4] at hq; cases hq; refine .inr ?_; simp [lowO, lowD.lowL, lowD, how]
   by_cases c3 : id = ow
   ·subst c3; rw [h5] at hq; cases hq; exact .inr (zdu (z12 (fun _ => rfl) _))
   exact .inl (by rw [<- h6 id hid c1 c2 c3]; exact hq)
  ·rintro r H2 n2 ⟨rfl, H', nx', ⟨rfl, l', h1, h2, h3, h4, h5, h6⟩, rfl⟩
   have hc : ∀ {id}, id < n2 -> zsc n2 H' id = H' id := fun h => if_pos h
   exact ⟨rfl, rfl, l', h1, h2, (hc hsm).trans h3, (hc ho).trans h4, (hc how).trans h5, fun id hid c1 c2 c3 => (hc hid).trans (h6 id hid c1 c2 c3)⟩
 refine z75 func77 rfl (by decide +kernel) (by simp [ntmps77]) ?_
 refine Sem.seq (Sem.walk (own := []) z1v (by decide +kernel) ?_)
 repeat' (first | ((refine zqr fun K hK => ?_); (simp (disch := omega) only [go_sem, Nat.reduceBEq])) | refine zqv ?_ | (refine hK _ ?_; clear hK K))
 obtain ⟨S, hS⟩ : ∃ S, S = z29 A u := ⟨_, rfl⟩
 refine Sem.seq (Sem.rangeL (own := []) 3 z1v rfl rfl rfl ⟨rfl, rfl, rfl⟩ ⟨rfl, rfl, rfl⟩ ⟨rfl, rfl, rfl⟩ ⟨rfl, rfl, rfl⟩ mapT55 (by decide +kernel) (by decide +kernel) (by decide +kernel) ?_)
 (simp (disch := omega) only [go_sem, Nat.reduceBEq, ↓reduceIte, Nat.reduceAdd, Nat.reduceLeDiff, e1, hHx, List.take_succ_cons, List.take_zero, List.map_cons, List.map_nil])
 refine zjl (zyq A B u p q na hu hk0 hnk _ _ ?_ ?_) ?_
 ·(simp (disch := omega) only [go_sem])
 ·(simp (disch := omega) only [go_sem, e6, hHp])
 rw [<- hS]
 (simp (disch := omega) only [go_sem, Nat.reduceBEq])
 refine ⟨nx + 2, setI S, rfl, by (simp (disch := omega) only [go_sem, e1]), fun M J => ⟨fun ls st => st.H (nx + 2) = some M /\ st.H (nx + 3) = some (J ls) /\ st.t 13 = .it (nx + 3) /\ st.t 2 = .ptr x 0 /\ st.t 3 = .ptr s 0 /\ st.t 4 = .ptr o 0 /\ st.t 5 = .ptr nx 0 /\ st.H nx = some (.box 27 (z04 u)) /\ nx + 4 <= st.nx /\ (∀ id, id < nx -> id ≠ sm -> st.H id = H id) /\
  ∃ l' : List Idv, l'.Nodup /\ (∀ i, i ∈ l' ↔ i ∈ l \/ ∃ j ∈ ls, S[j]? = some i) /\ st.H sm = some (.map (setI l')), ?_, ?_, ?_, ?_⟩⟩
 ·rintro ls st ⟨g1, g2, g3, _⟩
  refine ⟨g1, ?_, ?_⟩
  ·(simp (disch := omega) only [go_sem])
   exact g2
  ·(simp (disch := omega) only [go_sem])
   exact g3
 ·unfold zpt
  (simp (disch := omega) only [go_sem, Nat.reduceBEq, Nat.reduceLeDiff, e1, e3, true_and])
  refine ⟨Nat.le_refl _, fun id hid hne => ?_, l, hl, fun i => ?_, hHsm⟩
  ·simp (disch := omega) only [z0d]
  ·exact ⟨.inl, fun h => h.elim id fun ⟨j, hj, _⟩ => by cases hj⟩
 ·rintro ls st i k v ⟨g1, g2, g3, g4, g5, g6, g7, g8, g9, g10, l', h1, h2, h3⟩ hnd hlt hil hkv
  obtain ⟨c, hc, rfl, rfl⟩ : ∃ c, S[i]? = some c /\ k = z3a c /\ v = .bool true := by
   unfold setI at hkv
   rw [List.getElem?_map, Option.map_eq_some_iff] at hkv
   obtain ⟨c, hc, he⟩ := hkv
   simp only [Prod.mk.injEq] at he
   exact ⟨c, hc, he.1.symm, he.2.symm⟩
  have gs : st.H s = some (.box 55 [.mp sm]) := (g10 s hs a2).trans hHs
  have f0 := z01 (show nx < st.nx by omega)
  have f1 := z01 (show nx + 2 < st.nx by omega)
  have f2 := z01 (show nx + 3 < st.nx by omega)
  have f3 := z01 (show s < st.nx by omega)
  have f4 := z01 (show sm < st.nx by omega)
  have hfk := zct c l'
  unfold zpu
  by_cases hm : c ∈ l'
  ·rw [if_pos hm] at hfk
   have hsv := zgq h1 hm
   (simp (disch := omega) only [go_sem, Nat.reduceBEq, ↓reduceIte, Nat.reduceAdd, Nat.reduceLeDiff])
   repeat' (first | ((refine zqr fun K hK => ?_); (simp (disch := omega) only [go_sem, Nat.reduceBEq, ↓reduceIte, Nat.reduceAdd, Nat.reduceLeDiff, e2, e3, f2, f3, f4, g5, gs, h3, hfk, hsv])) | (refine hK _ ?_; clear hK K))
   refine zer ?_
   (simp (disch := omega) only [go_sem, Nat.reduceBEq, Nat.reduceLeDiff, e1, e3, f0, f1, f2, f4, g1, g2, g3, g4, g5, g6, g7, g8, true_and])
   exact ⟨by omega, fun id hid hne => by simp (disch := omega) only [z0d]; exact g10 id hid hne, l', h1, (zjm h2 hc).1 hm, rfl⟩
  ·rw [if_neg hm] at hfk
   have hsn := zak l' c
   (simp (disch := omega) only [go_sem, Nat.reduceBEq, ↓reduceIte, Nat.reduceAdd, Nat.reduceLeDiff])
   repeat' (first | ((refine zqr fun K hK => ?_); (simp (disch := omega) only [go_sem, Nat.reduceBEq, ↓reduceIte, Nat.reduceAdd, Nat.reduceLeDiff, e2, e3, f2, f3, f4, g5, gs, h3, hfk, hsn])) | (refine hK _ ?_; clear hK K))
   refine zer ?_
   (simp (disch := omega) only [go_sem, Nat.reduceBEq, Nat.reduceLeDiff, e1, e3, f0, f1, f2, f4, g1, g2, g3, g4, g5, g6, g7, g8, true_and])
   exact ⟨by omega, fun id hid hne => by simp (disch := omega) only [z0d]; exact g10 id hid hne, l' ++ [c], zmu h1 hm, (zjm h2 hc).2, rfl⟩
 ·rintro ls st ⟨g1, g2, g3, g4, g5, g6, g7, g8, g9, g10, l', h1, h2, h3⟩ hnd hlt hall
  unfold zjy
  refine zqv (Sem.walk (own := []) z1v (by decide +kernel) ?_)
  have gx : st.H x = some (.box 100 (cellsPr A B p q)) := (g10 x hx a1).trans hHx
  have gs : st.H s = some (.box 55 [.mp sm]) := (g10 s hs a2).trans hHs
  have go : st.H o = some (.box 39 [.osl ow out.length]) := (g10 o ho a3).trans hHo
  have gow : st.H ow = some (.row 23 out.length (out.flatMap cellsId)) := (g10 ow how a4).trans hHow
  have gp : st.H p = some (.map (mapI encPl (plcs A))) := (g10 p hp hps).trans hHp
  have f0 := z01 (show nx < st.nx by omega)
  have f1 := z01 (show nx + 2 < st.nx by omega)
  have f2 := z01 (show nx + 3 < st.nx by omega)
  have f3 := z01 (show s < st.nx by omega)
  have f4 := z01 (show sm < st.nx by omega)
  have f5 := z01 (show x < st.nx by omega)
  have f6 := z01 (show o < st.nx by omega)
  have f7 := z01 (show ow < st.nx by omega)
  have f8 := z01 (show p < st.nx by omega)
  have hmem : ∀ i, i ∈ l' ↔ i ∈ l \/ i ∈ S := fun i => by
   rw [h2 i]
   refine or_congr Iff.rfl ⟨fun ⟨j, _, h⟩ => List.mem_of_getElem? h, fun h => ?_⟩
   obtain ⟨j, hj, e⟩ := List.getElem_of_mem h
   exact ⟨j, hall j (by unfold setI; rw [List.length_map]; exact hj), by rw [List.getElem?_eq_getElem hj, e]⟩
  have hfk := zct u.id l'
  rcases zi7 na u.id with ⟨hA, y, _, _, n, hf⟩ | ⟨hA, hf⟩
  ·by_cases O : u.kind = 0
   ·repeat' (first | ((refine zqh fun K hK => ?_); (simp (disch := omega) only [go_sem, Nat.reduceBEq, ↓reduceIte, reduceCtorEq, Nat.reduceAdd, Nat.reduceLeDiff, e1, e6, f0, f1, gx, gp, g4, g7, g8, hf, O])) | ((refine zqm _ rfl (fun hc => ?_) (fun hc => ?_)) <;> (first | (cases hc; done) | ((try simp only [] at hc); (try omega)))) | refine zqk ?_ | refine zqu (by simp only [go_sem]; rfl) rfl ?_ | (refine hK _ ?_; clear hK K))
    have he : zpk A u l' out = out := if_neg fun h => h.2.1 O
    refine ⟨rfl, l', h1, hmem, ?_⟩
    rw [he]
    (simp (disch := omega) only [go_sem, e3, e4, e5, f4, f6, f7, go, gow, h3, true_and])
    exact fun id hid c1 c2 c3 => by simp (disch := omega) only [z0d]; exact g10 id hid c1
   ·by_cases hm : u.id ∈ l'
    ·rw [if_pos hm] at hfk
     repeat' (first | ((refine zqh fun K hK => ?_); (simp (disch := omega) only [go_sem, Nat.reduceBEq, ↓reduceIte, reduceCtorEq, Nat.reduceAdd, Nat.reduceLeDiff, e1, e2, e3, e6, f0, f1, f3, f4, gx, gs, gp, g4, g5, g7, g8, h3, hf, O, hfk])) | ((refine zqm _ rfl (fun hc => ?_) (fun hc => ?_)) <;> (first | (cases hc; done) | ((try simp only [] at hc); (try omega)))) | refine zqk ?_ | refine zqu (by simp only [go_sem]; rfl) rfl ?_ | (refine hK _ ?_; clear hK K))
     have he : zpk A u l' out = out := if_neg fun h => h.2.2 hm
     refine ⟨rfl, l', h1, hmem, ?_⟩
     rw [he]
     (simp (disch := omega) only [go_sem, e3, e4, e5, f4, f6, f7, go, gow, h3, true_and])
     exact fun id hid c1 c2 c3 => by simp (disch := omega) only [z0d]; exact g10 id hid c1
    ·rw [if_neg hm] at hfk
     repeat' (first | ((first | refine zqh fun K hK => ?_ | refine zqr fun K hK => ?_); (simp (disch := omega) only [go_sem, Nat.reduceBEq, ↓reduceIte, reduceCtorEq, Nat.reduceAdd, Nat.reduceMul, Nat.reduceLeDiff, Nat.reduceLT, e1, e2, e3, e4, e5, e6, f0, f1, f3, f4, f6, f7, d8, gx, gs, go, gow, gp, g4, g5, g6, g7, g8, h3, hf, O, hfk])) | ((refine zqm _ rfl (fun hc => ?_) (fun hc => ?_)) <;> (first | (cases hc; done) | ((try simp only [] at hc); (try omega)))) | refine zqu (by simp only [go_sem]; rfl) rfl ?_ | (refine hK _ ?_; clear hK K))
     have he : zpk A u l' out = out ++ [u.id] := if_pos ⟨hA, O, hm⟩
     refine ⟨rfl, l', h1, hmem, ?_⟩
     rw [he]
     (simp (disch := omega) only [go_sem, e3, e4, e5, f4, f6, f7, d5, d8, d9, d10, go, gow, h3, true_and, List.length_append, List.length_cons, List.length_nil, List.flatMap_append, List.flatMap_cons, List.flatMap_nil, List.append_nil, cellsId])
     exact fun id hid c1 c2 c3 => by simp (disch := omega) only [z0d]; exact g10 id hid c1
  ·repeat' (first | ((refine zqh fun K hK => ?_); (simp (disch := omega) only [go_sem, Nat.reduceBEq, ↓reduceIte, reduceCtorEq, Nat.reduceAdd, Nat.reduceLeDiff, e1, e6, f1, gx, gp, g4, g7, g8, hf])) | ((refine zqm _ rfl (fun hc => ?_) (fun hc => ?_)) <;> (first | (cases hc; done) | ((try simp only [] at hc); (try omega)))) | refine zqk ?_ | refine zqu (by simp only [go_sem]; rfl) rfl ?_ | (refine hK _ ?_; clear hK K))
   have he : zpk A u l' out = out := if_neg fun h => by have := h.1; rw [hA] at this; cases this
   refine ⟨rfl, l', h1, hmem, ?_⟩
   rw [he]
   (simp (disch := omega) only [go_sem, e3, e4, e5, f4, f6, f7, go, gow, h3, true_and])
   exact fun id hid c1 c2 c3 => by simp (disch := omega) only [z0d]; exact g10 id hid c1
end
section
open Abs Facts Tr
attribute [local irreducible] awp
set_option maxRecDepth 100000
namespace Tr
def outL (A : T) (done : List (T × T)) : List Idv := (done.filter fun e => z16 e.2.id A && !decide (e.2.id ∈ z29 A e.1)).map fun e => e.2.id
theorem zi4 (A B : T) : outL A (edT B) = zga A B := rfl
theorem zmd (A : T) (done : List (T × T)) : (outL A done).length <= done.length := by
 unfold outL; rw [List.length_map]; exact List.length_filter_le _ _
theorem zsr (A : T) (done : List (T × T)) (e : T × T) : outL A (done ++ [e]) = if z16 e.2.id A = true /\ e.2.id ∉ z29 A e.1 then outL A done ++ [e.2.id] else outL A done := by
 unfold outL
 rw [List.filter_append, List.map_append]
 by_cases h1 : z16 e.2.id A = true <;> by_cases h2 : e.2.id ∈ z29 A e.1 <;> simp [h1, h2]
def inS (A B : T) (done : List (T × T)) (i : Idv) : Prop := i ∈ z29 A B \/ ∃ e ∈ done, i ∈ z29 A e.2
theorem mv_step {A B : T} (bk : z3k B = true) {u k : T} (hu : u ∈ nodesT B) (O : k ∈ u.kids) {l l' : List Idv} {done : List (T × T)} (V : ∀ e ∈ done, e.2 ∈ nodesT B) (hl : ∀ i, i ∈ l ↔ inS A B done i) (hl' : ∀ i, i ∈ l' ↔ i ∈ l \/ i ∈ z29 A k) (hin : u = B \/ ∃ e ∈ done, e.2 = u) :
  zpk A k l' (outL A done) = outL A (done ++ [(u, k)]) /\ ∀ i, i ∈ l' ↔ inS A B (done ++ [(u, k)]) i := by
 have nb := ((z1g B).1 bk).2.2
 have hkn : k ∈ nodesT B := z11 B u hu k (z0j O (z07 k))
 have hm : ∀ i, i ∈ l' ↔ inS A B (done ++ [(u, k)]) i := fun i => by
  rw [hl', hl]
  unfold inS
  constructor
  ·rintro ((h | ⟨e, he, h⟩) | h)
   ·exact .inl h
   ·exact .inr ⟨e, List.mem_append_left _ he, h⟩
   ·exact .inr ⟨(u, k), by simp, h⟩
  ·rintro (h | ⟨e, he, h⟩)
   ·exact .inl (.inl h)
   ·rcases List.mem_append.1 he with he | he
    ·exact .inl (.inr ⟨e, he, h⟩)
    ·rw [List.mem_singleton] at he; subst he; exact .inr h
 refine ⟨?_, hm⟩
 have hkind : ¬ k.kind = 0 := (zeu bk hu).2.2.2.2 k O
 have key : k.id ∈ l' ↔ k.id ∈ z29 A u := by
  rw [hm]
  constructor
  ·intro h
   have fin : ∀ q ∈ nodesT B, k.id ∈ z29 A q -> k.id ∈ z29 A u := fun q hq hs => by
    obtain ⟨k', hk', e, _⟩ := z73 hs
    obtain ⟨e2, _⟩ := ztx nb hq hk' hu O e
    exact e2 ▸ hs
   rcases h with h | ⟨e, he, h⟩
   ·exact fin B (z07 B) h
   ·rcases List.mem_append.1 he with he | he
    ·exact fin _ (V e he) h
    ·rw [List.mem_singleton] at he; subst he; exact fin k hkn h
  ·intro h
   rcases hin with rfl | ⟨e, he, rfl⟩
   ·exact .inl h
   ·exact .inr ⟨e, List.mem_append_left _ he, h⟩
 rw [zsr]
 unfold zpk
 simp only [key, hkind, not_false_iff, true_and]
theorem zss (t : T) : (edT t).length + 1 = cntT t := by
 have h := congrArg List.length (zo8 t)
 rw [List.length_cons, List.length_map] at h
 unfold idsT at h
 rw [List.length_map] at h
 exact h.symm
def edN (u : T) (i : Nat) : List (T × T) := (u.kids.take i).flatMap fun k => (u, k) :: edT k
theorem znv {u : T} {i : Nat} (h : i < u.kids.length) : edN u (i + 1) = edN u i ++ [(u, u.kids[i])] ++ edT u.kids[i] := by
 unfold edN
 rw [List.take_succ_eq_append_getElem h, List.flatMap_append]
 simp
theorem edN_all (u : T) : edN u u.kids.length = edT u := by rw [zgz, edN, List.take_length]
theorem edN_le {u : T} {i : Nat} (h : i < u.kids.length) : (edN u i).length + 1 + (edT u.kids[i]).length <= (edT u).length := by
 have h1 : edT u = edN u (i + 1) ++ (u.kids.drop (i + 1)).flatMap fun k => (u, k) :: edT k := by
  rw [zgz, edN, <- List.flatMap_append, List.take_append_drop]
 rw [h1, znv h]
 simp only [List.length_append, List.length_cons, List.length_nil]
 omega
end Tr
section
variable (A B : T) (x s sm o ow p q : Nat)
structure MvI (done : List (T × T)) (H : HM) : Prop where
 sub : ∀ e ∈ done, e.2 ∈ nodesT B
 set : ∃ l : List Idv, l.Nodup /\ (∀ i, i ∈ l ↔ inS A B done i) /\ H sm = some (.map (setI l))
 ho : H o = some (.box 39 [.osl ow (outL A done).length])
 how : H ow = some (.row 23 (outL A done).length ((outL A done).flatMap cellsId))
structure MvF (nx : Nat) (H : HM) : Prop where
 lx : x < nx
 ls : s < nx
 lsm : sm < nx
 lo : o < nx
 low : ow < nx
 lp : p < nx
 hx : H x = some (.box 100 (cellsPr A B p q))
 hs : H s = some (.box 55 [.mp sm])
 hp : H p = some (.map (mapI encPl (plcs A)))
 xsm : x ≠ sm
 xo : x ≠ o
 xow : x ≠ ow
 ssm : s ≠ sm
 so : s ≠ o
 sow : s ≠ ow
 psm : p ≠ sm
 po : p ≠ o
 pow : p ≠ ow
end
theorem MvF.later {A B : T} {x s sm o ow p q nx nx' : Nat} {H H' : HM} (h : MvF A B x s sm o ow p q nx H) (hn : nx <= nx') (O : ∀ id, id < nx -> id ≠ sm -> id ≠ o -> id ≠ ow -> H' id = H id) : MvF A B x s sm o ow p q nx' H' where
 lx := Nat.lt_of_lt_of_le h.lx hn
 ls := Nat.lt_of_lt_of_le h.ls hn
 lsm := Nat.lt_of_lt_of_le h.lsm hn
 lo := Nat.lt_of_lt_of_le h.lo hn
 low := Nat.lt_of_lt_of_le h.low hn
 lp := Nat.lt_of_lt_of_le h.lp hn
 hx := (O x h.lx h.xsm h.xo h.xow).trans h.hx
 hs := (O s h.ls h.ssm h.so h.sow).trans h.hs
 hp := (O p h.lp h.psm h.po h.pow).trans h.hp
 xsm := h.xsm
 xo := h.xo
 xow := h.xow
 ssm := h.ssm
 so := h.so
 sow := h.sow
 psm := h.psm
 po := h.po
 pow := h.pow
theorem MvI.later {A B : T} {sm o ow : Nat} {done : List (T × T)} {H H' : HM} (h : MvI A B sm o ow done H) (h1 : H' sm = H sm) (h2 : H' o = H o) (h3 : H' ow = H ow) : MvI A B sm o ow done H' where
 sub := h.sub
 set := by obtain ⟨l, a, b, c⟩ := h.set; exact ⟨l, a, b, h1.trans c⟩
 ho := h2.trans h.ho
 how := h3.trans h.how
theorem ac_meet {A B : T} (na : (idsT A).Nodup) (bk : z3k B = true) (hr : A.id = B.id) {u k : T} (hu : u ∈ nodesT B) (O : k ∈ u.kids) (hz : szB k = true) (x s sm o ow p q : Nat) (pc : List D) (hpc : pc.length = 8) (done : List (T × T)) (hdl : done.length <= 1000000) (hin : u = B \/ ∃ e ∈ done, e.2 = u) (H : HM) (nx : Nat)
  (hF : MvF A B x s sm o ow p q nx H) (hI : MvI A B sm o ow done H) :
  AC prog 77 [z1o k, .agg pc, .ptr x 0, .ptr s 0, .ptr o 0] H nx fun r' H' nx' => r' = .tup [] /\ nx' = nx /\ MvI A B sm o ow (done ++ [(u, k)]) H' /\ ∀ id, id < nx -> id ≠ sm -> id ≠ o -> id ≠ ow -> H' id = H id := by
 have nb := ((z1g B).1 bk).2.2
 have hkn : k ∈ nodesT B := z11 B u hu k (z0j O (z07 k))
 obtain ⟨l, h1, h2, h3⟩ := hI.set
 refine (zjn A B k pc hpc x s sm o ow p q na hz (fun y hy => by rw [hr]; exact z6e nb hkn hy) (z2r nb hkn) l (outL A done) h1 (Nat.le_trans (zmd _ _) hdl) H nx hF.lx hF.ls hF.lsm hF.lo hF.low hF.lp hF.hx hF.hs h3 hI.ho hI.how hF.hp hF.psm hF.so (fun e => by have h9 := hF.hx; rw [e, hF.hs] at h9; cases h9)).mono ?_
 rintro r' H' nx' ⟨g1, g2, l', g3, g4, g5, g6, g7, g8⟩
 obtain ⟨m1, m2⟩ := mv_step bk hu O hI.sub h2 g4 hin
 rw [m1] at g6 g7
 refine ⟨g1, g2, ⟨fun e he => ?_, ⟨l', g3, m2, g5⟩, g6, g7⟩, g8⟩
 rcases List.mem_append.1 he with he | he
 ·exact hI.sub e he
 ·rw [List.mem_singleton] at he; subst he; exact hkn
theorem zst {A B : T} {sm o ow nx : Nat} {done : List (T × T)} {H H' : HM} (hI : MvI A B sm o ow done H') (how : ow < nx) (O : ∀ id, id < nx -> id ≠ sm -> id ≠ o -> id ≠ ow -> H' id = H id) : ∀ id q, id < nx -> H' id = some q -> H id = some q \/ lowO nx q = true := by
 intro id q hid hq
 obtain ⟨l, _, _, h3⟩ := hI.set
 by_cases c1 : id = sm
 ·subst c1; rw [h3] at hq; cases hq; exact .inr (zdu (zc9 _))
 by_cases c2 : id = o
 ·subst c2; rw [hI.ho] at hq; cases hq; refine .inr ?_; simp [lowO, lowD.lowL, lowD, how]
 by_cases c3 : id = ow
 ·subst c3; rw [hI.how] at hq; cases hq; exact .inr (zdu (z12 (fun _ => rfl) _))
 exact .inl (by rw [<- O id hid c1 c2 c3]; exact hq)
set_option maxHeartbeats 16000000 in
theorem zx4 {A B : T} (na : (idsT A).Nodup) (bk : z3k B = true) (hr : A.id = B.id) (x s sm o ow p q : Nat) : ∀ u : T, u ∈ nodesT B -> szB u = true -> ∀ (done : List (T × T)), done.length + (edT u).length <= 1000000 -> (u = B \/ ∃ e ∈ done, e.2 = u) -> ∀ (H : HM) (nx : Nat), MvF A B x s sm o ow p q nx H -> MvI A B sm o ow done H ->
  AC prog 92 [z1o u, .fn 77 [.ptr x 0, .ptr s 0, .ptr o 0]] H nx fun r' H' nx' => r' = .tup [] /\ nx' = nx /\ MvI A B sm o ow (done ++ edT u) H' /\ ∀ id, id < nx -> id ≠ sm -> id ≠ o -> id ≠ ow -> H' id = H id := by
 refine z53 fun u ih hu hsz done hdl hin H nx hF hI => ?_
 obtain ⟨h0, h1, g1, h2, g2, h3, h4⟩ := (z3o u).1 hsz
 suffices h : AC prog 92 [z1o u, .fn 77 [.ptr x 0, .ptr s 0, .ptr o 0]] H nx fun r' H' _ => r' = .tup [] /\ MvI A B sm o ow (done ++ edT u) H' /\ ∀ id, id < nx -> id ≠ sm -> id ≠ o -> id ≠ ow -> H' id = H id by
  refine (z9z h fun r H' nx' ⟨hr, hi, O⟩ => ⟨by rw [hr]; rfl, zst hi hF.low O⟩).mono ?_
  rintro r H2 n2 ⟨rfl, H', nx', ⟨hr, hi, O⟩, rfl⟩
  have hc : ∀ {id}, id < n2 -> zsc n2 H' id = H' id := fun h => if_pos h
  exact ⟨hr, rfl, hi.later (hc hF.lsm) (hc hF.lo) (hc hF.low), fun id hid c1 c2 c3 => (hc hid).trans (O id hid c1 c2 c3)⟩
 refine (z30 [] func92 rfl (by decide +kernel) rfl ?_)
 show awp _ _ (Code.seq _ _) _ _
 repeat' (first | ((refine zqh fun K hK => ?_); (simp (disch := omega) only [go_sem, Nat.reduceBEq, ↓reduceIte, reduceCtorEq, Nat.reduceAdd])) | refine zqi ?_ | (refine hK _ ?_; clear hK K))
 (refine z6x (fun U st => ∃ (i : Nat), U = u.kids.length - i /\ st.t 2 = .ptr nx 0 /\ st.t 1 = .fn 77 [.ptr x 0, .ptr s 0, .ptr o 0] /\ st.t 7 = z0l u.kids /\ st.t 8 = .int .i64 u.kids.length /\ st.t 9 = .int .i64 i /\ st.H (nx) = some (.box 27 (z04 u)) /\ (i <= u.kids.length) /\ (nx < st.nx) /\ (MvI A B sm o ow (done ++ edN u i) st.H) /\ (∀ id, id < nx -> id ≠ sm -> id ≠ o -> id ≠ ow -> st.H id = H id)) ?_ ?_); rotate_left; (rintro U st ⟨i, rfl, v2, v1, v7, v8, v9, vHnx, vp0, vp1, vp2, vp3⟩); rotate_left
 ·(refine ⟨_, 0, rfl, ?_⟩); (simp (disch := omega) only [go_sem, Nat.reduceBEq, true_and, Int.natCast_zero, z0l])
  have hz : done ++ edN u 0 = done := by rw [show edN u 0 = [] from rfl, List.append_nil]
  rw [hz]
  exact ⟨Nat.lt_succ_self _, hI.later (z2k _ (by have := hF.lsm; omega)) (z2k _ (by have := hF.lo; omega)) (z2k _ (by have := hF.low; omega)), fun id hid c1 c2 c3 => by simp (disch := omega) only [z0d]⟩
 have f0 := z01 (show nx < st.nx by omega)
 by_cases hi : i < u.kids.length
 ·have hki := List.getElem_mem hi
  have hn := znv hi
  have hle := edN_le hi
  have hF1 : MvF A B x s sm o ow p q st.nx st.H := hF.later (by omega) vp3
  have hin1 : u = B \/ ∃ e ∈ done ++ edN u i, e.2 = u := hin.imp id fun ⟨e, he, h⟩ => ⟨e, List.mem_append_left _ he, h⟩
  have hdl1 : (done ++ edN u i).length <= 1000000 := by rw [List.length_append]; omega
  repeat' (first | ((refine zqh fun K hK => ?_); (simp (disch := omega) only [go_sem, Nat.reduceBEq, ↓reduceIte, reduceCtorEq, Nat.reduceAdd, Nat.reduceLeDiff, v2, v1, v7, v8, v9, vHnx, f0, z0l])) | (refine zqd _ rfl ?_ ?_ <;> intro hc <;> (((try simp only [z06] at hc); (try omega)))) | refine zqa ?_ | refine zqb ?_ | (refine hK _ ?_; clear hK K))
  refine z3g ((ac_meet na bk hr hu hki (h4 _ hki) x s sm o ow p q (z04 u) (z5i u) (done ++ edN u i) hdl1 hin1 _ _ ?_ ?_).mono ?_)
  ·refine hF.later (by (simp (disch := omega) only [go_sem]); all_goals omega) fun id hid c1 c2 c3 => ?_
   refine Eq.trans ?_ (vp3 id hid c1 c2 c3)
   (simp (disch := omega) only [go_sem])
  ·refine vp2.later ?_ ?_ ?_
   ·have := hF.lsm; (simp (disch := omega) only [go_sem])
   ·have := hF.lo; (simp (disch := omega) only [go_sem])
   ·have := hF.low; (simp (disch := omega) only [go_sem])
  rintro r1 H1 n1 ⟨rfl, hn1, hI1, hk1⟩
  have hn1 : n1 = st.nx + 1 := by rw [hn1]; (simp (disch := omega) only [go_sem])
  subst hn1
  have hk1 : ∀ id, id < st.nx + 1 -> id ≠ sm -> id ≠ o -> id ≠ ow -> H1 id = (if id = st.nx then some (.box 27 (z04 u.kids[i])) else st.H id) := fun id hid c1 c2 c3 => by
   refine (hk1 id (by (simp (disch := omega) only [go_sem]); all_goals omega) c1 c2 c3).trans ?_
   (simp (disch := omega) only [go_sem])
   by_cases e : id = st.nx
   ·subst e; simp
   ·simp only [z1x e, cond_false, if_neg e]
  have lsm := hF.lsm
  have lo := hF.lo
  have low := hF.low
  have hb1 : H1 st.nx = some (.box 27 (z04 u.kids[i])) := (hk1 _ (by omega) (by omega) (by omega) (by omega)).trans (if_pos rfl)
  have hb2 : H1 nx = some (.box 27 (z04 u)) := (hk1 _ (by omega) (by omega) (by omega) (by omega)).trans ((if_neg (by omega)).trans vHnx)
  have hk2 : ∀ id, id < nx -> id ≠ sm -> id ≠ o -> id ≠ ow -> H1 id = H id := fun id hid c1 c2 c3 => (hk1 id (by omega) c1 c2 c3).trans ((if_neg (by omega)).trans (vp3 id hid c1 c2 c3))
  clear hk1
  repeat' (first | ((refine zqr fun K hK => ?_); (simp (disch := omega) only [go_sem, Nat.reduceBEq, ↓reduceIte, Nat.reduceAdd, Nat.reduceLeDiff, v1, hb1])) | (refine hK _ ?_; clear hK K))
  refine z3g ((ih _ hki (z11 B u hu _ (z0j hki (z07 _))) (h4 _ hki) (done ++ edN u i ++ [(u, u.kids[i])]) (by simp only [List.length_append, List.length_cons, List.length_nil]; omega) (.inr ⟨(u, u.kids[i]), by simp, rfl⟩) _ _ ?_ ?_).mono ?_)
  ·refine hF.later (by (simp (disch := omega) only [go_sem]); all_goals omega) fun id hid c1 c2 c3 => ?_
   (simp (disch := omega) only [go_sem])
   exact hk2 id hid c1 c2 c3
  ·(simp (disch := omega) only [go_sem])
   exact hI1
  rintro r2 H2 n2 ⟨rfl, hn2, hI2, hk3⟩
  have hn2 : n2 = st.nx + 1 := by rw [hn2]; (simp (disch := omega) only [go_sem])
  subst hn2
  have hk3 : ∀ id, id < st.nx + 1 -> id ≠ sm -> id ≠ o -> id ≠ ow -> H2 id = H1 id := fun id hid c1 c2 c3 => by
   refine (hk3 id (by (simp (disch := omega) only [go_sem]); all_goals omega) c1 c2 c3).trans ?_
   (simp (disch := omega) only [go_sem])
  have F : H2 nx = some (.box 27 (z04 u)) := (hk3 _ (by omega) (by omega) (by omega) (by omega)).trans hb2
  have hn' : done ++ edN u i ++ [(u, u.kids[i])] ++ edT u.kids[i] = done ++ edN u (i + 1) := by rw [hn]; simp only [List.append_assoc]
  rw [hn'] at hI2
  (try (simp (disch := omega) only [go_sem])); repeat' (first | refine zqv ?_ | refine zqy ?_ | (refine hK _ ?_; clear hK K))
  refine ⟨_, SealTo.refl _, ?_⟩
  repeat' (first | ((refine zqr fun K hK => ?_); (simp (disch := omega) only [go_sem, Nat.reduceBEq, ↓reduceIte, v9])) | (refine hK _ ?_; clear hK K))
  (refine Exists.intro _ (And.intro ?_ ⟨i + 1, rfl, ?_⟩)); rotate_left; (simp (disch := omega) only [go_sem, Nat.reduceBEq, v2, v1, v7, v8, v9, true_and, Int.natCast_add, Int.natCast_one]); rotate_left
  ·omega
  ·exact ⟨F, by omega, hI2, fun id hid c1 c2 c3 => (hk3 id (by omega) c1 c2 c3).trans (hk2 id hid c1 c2 c3)⟩
 ·repeat' (first | ((refine zqh fun K hK => ?_); (simp (disch := omega) only [go_sem, ↓reduceIte, v8, v9])) | (refine zqd _ rfl ?_ ?_ <;> intro hc <;> (((try simp only [z06] at hc); (try omega)))) | refine zqc ?_ | refine zqz ?_ | refine zqp ?_ | refine zqu (by simp only [go_sem]; rfl) rfl ?_ | (refine hK _ ?_; clear hK K))
  have hil : i = u.kids.length := by omega
  subst hil
  rw [edN_all] at vp2
  (simp (disch := omega) only [go_sem])
  exact ⟨vp2, vp3⟩
set_option maxHeartbeats 16000000 in
theorem ac_each {A B : T} (na : (idsT A).Nodup) (bk : z3k B = true) (hr : A.id = B.id) (fb : Fit50 B) (x s sm o ow p q : Nat) (H : HM) (nx : Nat) (hF : MvF A B x s sm o ow p q nx H) (hsm : H sm = some (.map (setI []))) (ho : H o = some (.box 39 [.osl ow 0])) (how : H ow = some (.row 23 0 [])) :
  AC prog 76 [z1o B, .fn 77 [.ptr x 0, .ptr s 0, .ptr o 0]] H nx fun r' H' nx' => r' = .tup [] /\ nx' = nx /\ MvI A B sm o ow (edT B) H' /\ ∀ id, id < nx -> id ≠ sm -> id ≠ o -> id ≠ ow -> H' id = H id := by
 obtain ⟨O, _, nb⟩ := (z1g B).1 bk
 suffices h : AC prog 76 [z1o B, .fn 77 [.ptr x 0, .ptr s 0, .ptr o 0]] H nx fun r' H' _ => r' = .tup [] /\ MvI A B sm o ow (edT B) H' /\ ∀ id, id < nx -> id ≠ sm -> id ≠ o -> id ≠ ow -> H' id = H id by
  refine (z9z h fun r H' nx' ⟨hr, hi, O⟩ => ⟨by rw [hr]; rfl, zst hi hF.low O⟩).mono ?_
  rintro r H2 n2 ⟨rfl, H', nx', ⟨hr, hi, O⟩, rfl⟩
  have hc : ∀ {id}, id < n2 -> zsc n2 H' id = H' id := fun h => if_pos h
  exact ⟨hr, rfl, hi.later (hc hF.lsm) (hc hF.lo) (hc hF.low), fun id hid c1 c2 c3 => (hc hid).trans (O id hid c1 c2 c3)⟩
 have lsm := hF.lsm
 have lo := hF.lo
 have low := hF.low
 have hH0 : ∀ id, id < nx -> z0u H nx (some (.box 27 (z04 B))) id = H id := fun id hid => z2k _ (by omega)
 have hF1 : MvF A B x s sm o ow p q (nx + 1) (z0u H nx (some (.box 27 (z04 B)))) := hF.later (by omega) fun id hid _ _ _ => hH0 id hid
 refine (z30 [] func76 rfl (by decide +kernel) rfl ?_)
 show awp _ _ (Code.seq _ _) _ _
 repeat' (first | ((refine zqh fun K hK => ?_); (simp (disch := omega) only [go_sem, Nat.reduceBEq, ↓reduceIte, Nat.reduceAdd, Nat.reduceLeDiff])) | (refine hK _ ?_; clear hK K))
 refine z3g ((zjn A B B _ ?_ x s sm o ow p q na fb.sz (fun y hy => by rw [hr]; exact z6e nb (z07 B) hy) (z2r nb (z07 B)) [] [] List.nodup_nil (Nat.zero_le _) _ _ ?_ ?_ ?_ ?_ ?_ ?_ ?_ ?_ ?_ ?_ ?_ ?_ hF.psm hF.so (fun e => by have h9 := hF.hx; rw [e, hF.hs] at h9; cases h9)).mono ?_)
 ·rfl
 ·exact hF1.lx
 ·exact hF1.ls
 ·exact hF1.lsm
 ·exact hF1.lo
 ·exact hF1.low
 ·exact hF1.lp
 ·exact hF1.hx
 ·exact hF1.hs
 ·exact (hH0 sm lsm).trans hsm
 ·exact (hH0 o lo).trans ho
 ·exact (hH0 ow low).trans how
 ·exact hF1.hp
 rintro r1 H1 n1 ⟨rfl, hn1, l', g1, g2, g3, g4, g5, hk1⟩
 have hn1 : n1 = nx + 1 := hn1
 subst hn1
 have hk1 : ∀ id, id < nx + 1 -> id ≠ sm -> id ≠ o -> id ≠ ow -> H1 id = z0u H nx (some (.box 27 (z04 B))) id := hk1
 have ho0 : zpk A B l' [] = [] := if_neg fun h => h.2.1 O
 rw [ho0] at g4 g5
 have hI1 : MvI A B sm o ow [] H1 := ⟨fun e he => (by cases he), ⟨l', g1, fun i => (g2 i).trans ⟨fun h => h.elim (fun h => by cases h) .inl, fun h => h.elim .inr fun ⟨e, he, _⟩ => by cases he⟩, g3⟩, g4, g5⟩
 have hb : H1 nx = some (.box 27 (z04 B)) := (hk1 nx (by omega) (by omega) (by omega) (by omega)).trans (if_pos rfl)
 repeat' (first | ((refine zqr fun K hK => ?_); (simp (disch := omega) only [go_sem, Nat.reduceBEq, ↓reduceIte, Nat.reduceAdd, Nat.reduceLeDiff, hb])) | (refine hK _ ?_; clear hK K))
 refine z3g ((zx4 na bk hr x s sm o ow p q B (z07 B) fb.sz [] (by have h1 := zss B; have h2 := fb.cnt; rw [List.length_nil]; omega) (.inl rfl) _ _ ?_ ?_).mono ?_)
 ·exact hF1.later (Nat.le_refl _) fun id hid c1 c2 c3 => hk1 id hid c1 c2 c3
 ·exact hI1
 rintro r2 H2 n2 ⟨rfl, _, hI2, hk2⟩
 have hk2 : ∀ id, id < nx + 1 -> id ≠ sm -> id ≠ o -> id ≠ ow -> H2 id = H1 id := hk2
 (try (simp (disch := omega) only [go_sem])); repeat' (first | refine zqu (by simp only [go_sem]; rfl) rfl ?_ | (refine hK _ ?_; clear hK K))
 exact ⟨rfl, hI2, fun id hid c1 c2 c3 => (hk2 id (by omega) c1 c2 c3).trans ((hk1 id (by omega) c1 c2 c3).trans (hH0 id hid))⟩
set_option maxHeartbeats 16000000 in
theorem zsu {A B : T} (fa : Fit50 A) (fb : Fit50 B) (ba : z3k A = true) (bk : z3k B = true) (p q : Nat) (H : HM) (nx : Nat) (hp : p < nx) (hHp : H p = some (.map (mapI encPl (plcs A)))) :
  AC prog 58 [.agg (cellsPr A B p q)] H nx fun r' H' nx' => r' = renD (fun j => nx + j) (.osl 0 (zga A B).length) /\ H' = zjk H nx [.row 23 (zga A B).length ((zga A B).flatMap cellsId)] /\ nx' = nx + 1 := by
 have na := ((z1g A).1 ba).2.2
 have nb := ((z1g B).1 bk).2.2
 have hr : A.id = B.id := (z5l ba).trans (z5l bk).symm
 have e1 := z01 hp
 have e2 := zb6 hp
 refine ztr rfl (fun o ho => by rw [List.mem_singleton] at ho; subst ho; exact z12 (fun _ => rfl) _) (z30 [] func58 rfl (by decide +kernel) rfl ?_)
 show awp _ _ (Code.seq _ _) _ _
 repeat' (first | ((refine z22 (N := 1) rfl fun K hK => ?_); (simp (disch := omega) only [go_sem, ↓reduceIte])) | (refine hK _ ?_; clear hK K))
 refine z6d fun K hK => ?_
 (simp (disch := omega) only [go_sem])
 refine hK _ _ (zkb (b := nx + 1) (e := 39) 23 (by (simp (disch := omega) only [go_sem, e1]))) ?_
 clear hK K
 repeat' (first | ((refine zqh fun K hK => ?_); (simp (disch := omega) only [go_sem, Nat.reduceBEq, ↓reduceIte, reduceCtorEq, Nat.reduceAdd, Nat.reduceLeDiff, Nat.reduceLT, e1, e2])) | (refine hK _ ?_; clear hK K))
 refine z3g ((ac_each na bk hr fb nx (nx + 4) (nx + 3) (nx + 1) (nx + 2) p q _ _ ?_ ?_ ?_ ?_).mono ?_)
 ·refine ⟨?_, ?_, ?_, ?_, ?_, ?_, ?_, ?_, ?_, by omega, by omega, by omega, by omega, by omega, by omega, by omega, by omega, by omega⟩
  all_goals first | omega | ((simp (disch := omega) only [go_sem, e1, e2, hHp]); all_goals omega)
 ·(simp (disch := omega) only [go_sem, e1, e2])
  all_goals rfl
 ·(simp (disch := omega) only [go_sem, e1, e2])
 ·(simp (disch := omega) only [go_sem, e1, e2])
 rintro r1 H1 n1 ⟨rfl, hn1, hI, O⟩
 have hn1 : n1 = nx + 5 := hn1
 subst hn1
 have O : ∀ id, id < nx -> H1 id = H id := fun id hid => (O id (by show id < nx + 5; omega) (by omega) (by omega) (by omega)).trans (by
  (simp (disch := omega) only [go_sem])
  simp (disch := omega) only [z0d])
 have hb1 := hI.ho
 have hb2 := hI.how
 rw [zi4] at hb1 hb2
 repeat' (first | ((refine zqh fun K hK => ?_); (simp (disch := omega) only [go_sem, Nat.reduceBEq, ↓reduceIte, Nat.reduceAdd, hb1])) | refine zqn ?_ | refine zqu (by simp only [go_sem]; rfl) rfl ?_ | (refine hK _ ?_; clear hK K))
 refine ⟨fun id hid => O id hid, fun _ => nx + 2, fun i j hi hj _ => ?_, fun _ _ => ?_, ?_, fun j hj => ?_⟩
 ·simp only [List.length_cons, List.length_nil] at hi hj; omega
 ·show nx <= nx + 2; omega
 ·rfl
 ·simp only [List.length_cons, List.length_nil] at hj
  obtain rfl : j = 0 := by omega
  exact hb2
set_option maxHeartbeats 16000000 in
theorem zsv (A B : T) (fa : Fit50 A) (fb : Fit50 B) : PC prog 42 [z1o A, z1o B] (z0m (if zdr A B = true then zga A B else [])) := by
 have c1 := zyl A B fa fb
 refine z3q 3 (by simp only [pureD.pureL, z0h, Bool.and_self]) (z3w _) (z30 [] func42 rfl (by decide +kernel) rfl ?_)
 show awp _ _ (Code.seq _ _) _ _
 cases hc : zdr A B
 ·have e1 : z8m A B = [] := by unfold z8m; rw [hc]; rfl
  have e2 : za1 A B = .tup [.agg zeroPr, .bool false] := by unfold za1; rw [hc]; rfl
  rw [e1, e2] at c1
  repeat' (first | refine zqj ?_ | ((first | refine zqh fun K hK => ?_ | refine zdw (c1) ?_); (simp (disch := omega) only [go_sem, Nat.reduceBEq, ↓reduceIte, Nat.reduceAdd, Nat.reduceLeDiff])) | (refine zqd _ rfl ?_ ?_ <;> intro hc <;> (first | (cases hc; done) | ((try simp only [] at hc); (try omega)))) | refine zqg ?_ | refine zqu (by simp only [go_sem]; rfl) rfl ?_ | (refine hK _ ?_; clear hK K))
  rw [if_neg (by decide)]
  exact z1e rfl (Le.nil 3)
 ·have e1 : z8m A B = [.map (mapI encPl (plcs A)), .map (mapI encPl (plcs B))] := by unfold z8m; rw [hc]; rfl
  have e2 : za1 A B = .tup [.agg (cellsPr A B 0 1), .bool true] := by unfold za1; rw [hc]; rfl
  rw [e1, e2] at c1
  obtain ⟨ba, bb, _⟩ := (zmg A B).1 hc
  have hren : renD.renL (fun j => 2 + j) (cellsPr A B 0 1) = cellsPr A B 2 3 := by rw [z2b, z2b]; rfl
  repeat' (first | refine zqj ?_ | ((first | refine zqh fun K hK => ?_ | refine zdw (c1) ?_); (simp (disch := omega) only [go_sem, Nat.reduceBEq, ↓reduceIte, Nat.reduceAdd, Nat.reduceLeDiff, hren])) | (refine zqd _ rfl ?_ ?_ <;> intro hc <;> (first | (cases hc; done) | ((try simp only [] at hc); (try omega)))) | refine zqb ?_ | (refine hK _ ?_; clear hK K))
  refine zjl (zsu fa fb ba bb 2 3 _ _ ?_ ?_) ?_
  ·show 2 < 5; decide
  ·(simp (disch := omega) only [go_sem, Nat.reduceBEq])
  (try (simp (disch := omega) only [go_sem, Nat.reduceBEq, Nat.reduceAdd])); repeat' (first | refine zqn ?_ | refine zqu (by simp only [go_sem]; rfl) rfl ?_ | (refine hK _ ?_; clear hK K))
  rw [if_pos rfl]
  refine z8i (nx := 0) ?_
  refine z1s (f := cellsId) (l := zga A B) 1 ?_ z6p z8y (fun _ => rfl) (fun _ => rfl)
  (simp (disch := omega) only [go_sem, Nat.reduceBEq])
end
section
open Abs Facts Tr
attribute [local irreducible] awp
set_option maxRecDepth 100000
namespace Tr
theorem zts {A B : T} (nb : (idsT B).Nodup) : (zga A B).Nodup := by
 rw [zo8, List.nodup_cons] at nb
 exact ((List.filter_sublist (l := edT B)).map _).nodup nb.2
theorem zml (t : T) : ((nodesT t).map unP).map (·.1) = idsT t := by rw [List.map_map]; rfl
theorem zgx {A B : T} {ls : List Nat} {i : Nat} {x : T} (h : ∀ j ∈ ls, ∀ y, (nodesT A)[j]? = some y -> (!z16 y.id B || decide ((findR y.id B).1.kind = y.kind)) = true) (hx : (nodesT A)[i]? = some x) (O : (!z16 x.id B || decide ((findR x.id B).1.kind = x.kind)) = true) :
  ∀ j ∈ ls ++ [i], ∀ y, (nodesT A)[j]? = some y -> (!z16 y.id B || decide ((findR y.id B).1.kind = y.kind)) = true := by
 intro j hj y hy
 rcases List.mem_append.1 hj with hj | hj
 ·exact h j hj y hy
 ·rw [List.mem_singleton] at hj
  subst hj
  rw [hx, Option.some.injEq] at hy
  rw [<- hy]; exact O
end Tr
def HeldK (A B : T) (H : HM) (r' : D) (H' : HM) (nx' : Nat) : Prop := (∀ id, id < 3 -> H' id = H id) /\ r' = .tup [.agg [.mp 6, .mp 7, .mp 8], .bool (zdr A B)] /\ 9 <= nx' /\ (zdr A B = true -> H' 6 = some (zck A) /\ H' 7 = some (zck B) /\ H' 8 = some (.map (setI (zga A B))))
theorem z7p {A B : T} {H H' : HM} {nx' : Nat} (h : zdr A B = false) (O : ∀ id, id < 3 -> H' id = H id) (hn : 9 <= nx') : HeldK A B H (.tup [.agg [.mp 6, .mp 7, .mp 8], .bool false]) H' nx' := ⟨O, by rw [h], hn, fun h2 => by rw [h] at h2; cases h2⟩
set_option maxHeartbeats 32000000 in
theorem zxr (A B : T) (fa : Fit50 A) (fb : Fit50 B) (H : HM) : AC prog 22 [z1o A, z1o B] H 3 (HeldK A B H) := by
 have cca := fa.cnt
 have ccb := fb.cnt
 have cda := fa.dep
 have cdb := fb.dep
 have c1 := zik A fa.sz (by omega) (by omega)
 have c2 := zik B fb.sz (by omega) (by omega)
 have c3 := zdq A (zfd A fa.sz) (by omega)
 have c4 := zdq B (zfd B fb.sz) (by omega)
 have c5 := zpg 6 A fa.sz []
 have c6 := zpg 7 B fb.sz []
 have c7 := zsv A B fa fb
 rw [List.nil_append] at c5 c6
 have hla : (mapI z1o ((nodesT A).map unP)).length = (z19 (idsT A)).length := by rw [ze0, zml]
 have hlb : (mapI z1o ((nodesT B).map unP)).length = (z19 (idsT B)).length := by rw [ze0, zml]
 have lea : (z19 (idsT A)).length <= cntT A := by have := (z25 (idsT A)).2.2.1; unfold idsT at this ⊢; unfold cntT; rwa [List.length_map] at this
 have leb : (z19 (idsT B)).length <= cntT B := by have := (z25 (idsT B)).2.2.1; unfold idsT at this ⊢; unfold cntT; rwa [List.length_map] at this
 have hma : (.map [] : HObj) = .map (mapI z1o []) := rfl
 have bad : ∀ {b : Bool}, b = false -> ¬ (b = true) := fun h => by rw [h]; decide
 have noA : z3k A = false -> zdr A B = false := fun h => by unfold zdr; rw [h]; rfl
 have noB : z3k B = false -> zdr A B = false := fun h => by unfold zdr; rw [h]; simp
 refine z75 func22 rfl (by decide +kernel) (by simp [ntmps22]) ?_
 rw [show Tryd.f22.results.toList = [.cell 4 57, .tmp 5] from rfl]
 refine Sem.seq (Sem.walk (own := []) z1v (by decide +kernel) ?_)
 repeat' (first | ((refine zqr fun K hK => ?_); (simp (disch := omega) only [go_sem, Nat.reduceBEq, Nat.reduceAdd])) | refine zqv ?_ | (refine hK _ ?_; clear hK K))
 refine Sem.seq (Sem.walk (own := []) z1v (by decide +kernel) ?_)
 repeat' (first | ((refine zqr fun K hK => ?_); (simp (disch := omega) only [go_sem, Nat.reduceBEq, ↓reduceIte, Nat.reduceAdd, Nat.reduceLeDiff])) | refine zqv ?_ | (refine hK _ ?_; clear hK K))
 refine Sem.seq (Sem.walk (own := []) z1v (by decide +kernel) ?_)
 by_cases ka : A.kind = 0
 rotate_left
 ·repeat' (first | ((refine zqh fun K hK => ?_); (simp (disch := omega) only [go_sem, Nat.reduceBEq, ↓reduceIte, reduceCtorEq, Nat.reduceAdd, Nat.reduceLeDiff, ka])) | ((refine zqm _ rfl (fun hc => ?_) (fun hc => ?_)) <;> (first | (cases hc; done) | ((try simp only [] at hc); (try omega)))) | refine zqn ?_ | refine zqx ?_ | refine zqu (by (simp (disch := omega) only [go_sem, Nat.reduceBEq, ↓reduceIte, Nat.reduceAdd, Nat.reduceLeDiff]); rfl) rfl ?_ | (refine hK _ ?_; clear hK K))
  refine z7p (noA (by rw [zb5]; simp [ka])) (fun id hid => ?_) (by show 9 <= 10; decide)
  (simp (disch := omega) only [go_sem])
  simp (disch := omega) only [z0d]
 by_cases kb : B.kind = 0
 rotate_left
 ·repeat' (first | ((refine zqh fun K hK => ?_); (simp (disch := omega) only [go_sem, Nat.reduceBEq, ↓reduceIte, reduceCtorEq, Nat.reduceAdd, Nat.reduceLeDiff, ka, kb])) | ((refine zqm _ rfl (fun hc => ?_) (fun hc => ?_)) <;> (first | (cases hc; done) | ((try simp only [] at hc); (try omega)))) | refine zqn ?_ | refine zqx ?_ | refine zqu (by (simp (disch := omega) only [go_sem, Nat.reduceBEq, ↓reduceIte, Nat.reduceAdd, Nat.reduceLeDiff]); rfl) rfl ?_ | (refine hK _ ?_; clear hK K))
  refine z7p (noB (by rw [zb5]; simp [kb])) (fun id hid => ?_) (by show 9 <= 10; decide)
  (simp (disch := omega) only [go_sem])
  simp (disch := omega) only [z0d]
 cases va : z8n A
 ·rw [va] at c1
  repeat' (first | ((first | refine zqh fun K hK => ?_ | refine zqs (c1) ?_); (simp (disch := omega) only [go_sem, Nat.reduceBEq, ↓reduceIte, reduceCtorEq, Nat.reduceAdd, Nat.reduceLeDiff, ka, kb])) | ((refine zqm _ rfl (fun hc => ?_) (fun hc => ?_)) <;> (first | (cases hc; done) | ((try simp only [] at hc); (try omega)))) | refine zqn ?_ | refine zqx ?_ | refine zqu (by (simp (disch := omega) only [go_sem, Nat.reduceBEq, ↓reduceIte, Nat.reduceAdd, Nat.reduceLeDiff]); rfl) rfl ?_ | (refine hK _ ?_; clear hK K))
  refine z7p (noA (by rw [zb5]; simp [va])) (fun id hid => ?_) (by show 9 <= 10; decide)
  (simp (disch := omega) only [go_sem])
  simp (disch := omega) only [z0d]
 rw [va] at c1
 cases vb : z8n B
 ·rw [vb] at c2
  repeat' (first | ((first | refine zqh fun K hK => ?_ | refine zqs (c1) ?_ | refine zqs (c2) ?_); (simp (disch := omega) only [go_sem, Nat.reduceBEq, ↓reduceIte, reduceCtorEq, Nat.reduceAdd, Nat.reduceLeDiff, ka, kb])) | ((refine zqm _ rfl (fun hc => ?_) (fun hc => ?_)) <;> (first | (cases hc; done) | ((try simp only [] at hc); (try omega)))) | refine zqn ?_ | refine zqx ?_ | refine zqu (by (simp (disch := omega) only [go_sem, Nat.reduceBEq, ↓reduceIte, Nat.reduceAdd, Nat.reduceLeDiff]); rfl) rfl ?_ | (refine hK _ ?_; clear hK K))
  refine z7p (noB (by rw [zb5]; simp [vb])) (fun id hid => ?_) (by show 9 <= 10; decide)
  (simp (disch := omega) only [go_sem])
  simp (disch := omega) only [z0d]
 rw [vb] at c2
 repeat' (first | ((first | refine zqh fun K hK => ?_ | refine zqs (c1) ?_ | refine zqs (c2) ?_); (simp (disch := omega) only [go_sem, Nat.reduceBEq, ↓reduceIte, reduceCtorEq, Nat.reduceAdd, Nat.reduceLeDiff, ka, kb])) | ((refine zqm _ rfl (fun hc => ?_) (fun hc => ?_)) <;> (first | (cases hc; done) | ((try simp only [] at hc); (try omega)))) | refine zqk ?_ | refine zqv ?_ | (refine hK _ ?_; clear hK K))
 refine Sem.seq (Sem.walk (own := []) z1v (by decide +kernel) ?_)
 repeat' (first | ((first | refine zqr fun K hK => ?_ | ((refine zbm (c5) ?_ ?_ ?_); (focus ((simp (disch := omega) only [go_sem, Nat.reduceBEq]); done)); (focus (((simp (disch := omega) only [go_sem]); done))))); (simp (disch := omega) only [go_sem, Nat.reduceBEq, ↓reduceIte, reduceCtorEq, Nat.reduceAdd, Nat.reduceLeDiff, hma])) | refine zqv ?_ | (refine hK _ ?_; clear hK K))
 refine Sem.seq (Sem.walk (own := []) z1v (by decide +kernel) ?_)
 repeat' (first | ((first | refine zqr fun K hK => ?_ | ((refine zbm (c6) ?_ ?_ ?_); (focus ((simp (disch := omega) only [go_sem, Nat.reduceBEq]); done)); (focus (((simp (disch := omega) only [go_sem]); done))))); (simp (disch := omega) only [go_sem, Nat.reduceBEq, ↓reduceIte, reduceCtorEq, Nat.reduceAdd, Nat.reduceLeDiff])) | refine zqv ?_ | (refine hK _ ?_; clear hK K))
 refine Sem.seq (Sem.walk (own := []) z1v (by decide +kernel) ?_)
 have ba : z3k A = true ↔ (idsT A).Nodup := by rw [z1g]; exact ⟨fun h => h.2.2, fun h => ⟨ka, va, h⟩⟩
 have bb : z3k B = true ↔ (idsT B).Nodup := by rw [z1g]; exact ⟨fun h => h.2.2, fun h => ⟨kb, vb, h⟩⟩
 by_cases na : (idsT A).Nodup
 rotate_left
 ·have h1 : ¬ ((((z19 (idsT A)).length : Nat) : Int) = (cntT A : Int)) := fun h => na ((zb4 A).1 h)
  repeat' (first | ((first | refine zqh fun K hK => ?_ | refine zqs (c3) ?_); (simp (disch := omega) only [go_sem, Nat.reduceBEq, ↓reduceIte, reduceCtorEq, Nat.reduceAdd, Nat.reduceLeDiff, hla, h1])) | ((refine zqm _ rfl (fun hc => ?_) (fun hc => ?_)) <;> (first | (cases hc; done) | ((try simp only [] at hc); (try omega)))) | refine zqn ?_ | refine zqx ?_ | refine zqu (by (simp (disch := omega) only [go_sem, Nat.reduceBEq, ↓reduceIte, Nat.reduceAdd, Nat.reduceLeDiff]); rfl) rfl ?_ | (refine hK _ ?_; clear hK K))
  refine z7p (noA (by cases h : z3k A with | false => rfl | true => exact absurd (ba.1 h) na)) (fun id hid => ?_) (by show 9 <= 10; decide)
  (simp (disch := omega) only [go_sem])
  simp (disch := omega) only [z0d]
 have ea : (((z19 (idsT A)).length : Nat) : Int) = (cntT A : Int) := (zb4 A).2 na
 by_cases nb : (idsT B).Nodup
 rotate_left
 ·have h1 : ¬ ((((z19 (idsT B)).length : Nat) : Int) = (cntT B : Int)) := fun h => nb ((zb4 B).1 h)
  repeat' (first | ((first | refine zqh fun K hK => ?_ | refine zqs (c3) ?_ | refine zqs (c4) ?_); (simp (disch := omega) only [go_sem, Nat.reduceBEq, ↓reduceIte, reduceCtorEq, Nat.reduceAdd, Nat.reduceLeDiff, hla, hlb, ea, h1])) | ((refine zqm _ rfl (fun hc => ?_) (fun hc => ?_)) <;> (first | (cases hc; done) | ((try simp only [] at hc); (try omega)))) | refine zqn ?_ | refine zqx ?_ | refine zqu (by (simp (disch := omega) only [go_sem, Nat.reduceBEq, ↓reduceIte, Nat.reduceAdd, Nat.reduceLeDiff]); rfl) rfl ?_ | (refine hK _ ?_; clear hK K))
  refine z7p (noB (by cases h : z3k B with | false => rfl | true => exact absurd (bb.1 h) nb)) (fun id hid => ?_) (by show 9 <= 10; decide)
  (simp (disch := omega) only [go_sem])
  simp (disch := omega) only [z0d]
 have eb : (((z19 (idsT B)).length : Nat) : Int) = (cntT B : Int) := (zb4 B).2 nb
 repeat' (first | ((first | refine zqh fun K hK => ?_ | refine zqs (c3) ?_ | refine zqs (c4) ?_); (simp (disch := omega) only [go_sem, Nat.reduceBEq, ↓reduceIte, reduceCtorEq, Nat.reduceAdd, Nat.reduceLeDiff, hla, hlb, ea, eb])) | ((refine zqm _ rfl (fun hc => ?_) (fun hc => ?_)) <;> (first | (cases hc; done) | ((try simp only [] at hc); (try omega)))) | refine zqk ?_ | refine zqv ?_ | (refine hK _ ?_; clear hK K))
 clear c1 c2 c3 c4 c5 c6
 have hcm : zdr A B = z5b A B := by unfold zdr; rw [ba.2 na, bb.2 nb]; rfl
 have nk : (((nodesT A).map unP).map (·.1)).Nodup := by rw [zml]; exact na
 refine Sem.seq (Sem.rangeL (own := []) 2 z1v rfl rfl rfl ⟨rfl, rfl, rfl⟩ ⟨rfl, rfl, rfl⟩ ⟨rfl, rfl, rfl⟩ ⟨rfl, rfl, rfl⟩ mapT54 (by decide +kernel) (by decide +kernel) (by decide +kernel) ?_)
 (simp (disch := omega) only [go_sem, Nat.reduceBEq, ↓reduceIte, reduceCtorEq, Nat.reduceAdd, List.take_succ_cons, List.take_zero, List.map_cons, List.map_nil])
 refine ⟨6, mapI z1o ((nodesT A).map unP), rfl, by (simp (disch := omega) only [go_sem, Nat.reduceBEq]), fun M J => ⟨fun ls st => st.H 6 = some M /\ st.H 10 = some (J ls) /\ st.t 61 = .it 10 /\ st.t 2 = .ptr 3 0 /\ st.t 3 = .ptr 4 0 /\ st.t 4 = .ptr 5 0 /\ st.t 6 = .ptr 9 0 /\ st.H 3 = some (.box 27 (z04 A)) /\ st.H 4 = some (.box 27 (z04 B)) /\ st.H 5 = some (.box 57 [.nmp, .nmp, .nmp]) /\ st.H 9 = some (.box 57 [.mp 6, .mp 7, .mp 8]) /\ st.H 7 = some (.map (mapI z1o ((nodesT B).map unP))) /\ st.H 8 = some (.map []) /\
  11 <= st.nx /\ (∀ id, id < 3 -> st.H id = H id) /\ ∀ j ∈ ls, ∀ y, (nodesT A)[j]? = some y -> (!z16 y.id B || decide ((findR y.id B).1.kind = y.kind)) = true, ?_, ?_, ?_, ?_⟩⟩
 ·rintro ls st ⟨g1, g2, g3, _⟩
  refine ⟨g1, ?_, ?_⟩
  ·(simp (disch := omega) only [go_sem])
   exact g2
  ·(simp (disch := omega) only [go_sem])
   exact g3
 ·unfold zpt
  (simp (disch := omega) only [go_sem, Nat.reduceBEq, Nat.reduceAdd, Nat.reduceLeDiff, true_and])
  refine ⟨rfl, fun id hid => ?_, fun j hj => by cases hj⟩
  simp (disch := omega) only [z0d]
 ·rintro ls st i k v ⟨g1, g2, g3, g4, g5, g6, g7, g8, g9, g10, g11, g12, g13, g14, g15, g16⟩ hnd hlt hil hkv
  obtain ⟨e, he, rfl, rfl⟩ := zt6 nk hkv
  rw [List.getElem?_map, Option.map_eq_some_iff] at he
  obtain ⟨y, hy, rfl⟩ := he
  have s3 := z01 (show 3 < st.nx by omega)
  have s4 := z01 (show 4 < st.nx by omega)
  have s5 := z01 (show 5 < st.nx by omega)
  have s6 := z01 (show 6 < st.nx by omega)
  have s7 := z01 (show 7 < st.nx by omega)
  have s8 := z01 (show 8 < st.nx by omega)
  have s9 := z01 (show 9 < st.nx by omega)
  have s10 := z01 (show 10 < st.nx by omega)
  unfold zpu
  rw [show (unP y).1 = y.id from rfl, show (unP y).2 = y from rfl]
  rcases zar nb y.id with ⟨hB, _, n, hf⟩ | ⟨hB, _, hf⟩
  ·by_cases O : (findR y.id B).1.kind = y.kind
   ·(simp (disch := omega) only [go_sem, Nat.reduceBEq, ↓reduceIte, Nat.reduceAdd, Nat.reduceLeDiff])
    repeat' (first | ((refine zqh fun K hK => ?_); (simp (disch := omega) only [go_sem, Nat.reduceBEq, ↓reduceIte, reduceCtorEq, Nat.reduceAdd, Nat.reduceLeDiff, s3, s7, s9, s10, g7, g11, g12, hf, O])) | ((refine zqm _ rfl (fun hc => ?_) (fun hc => ?_)) <;> (first | (cases hc; done) | ((try simp only [] at hc); (try omega)))) | refine zqk ?_ | (refine hK _ ?_; clear hK K))
    refine zer ?_
    (simp (disch := omega) only [go_sem, Nat.reduceBEq, Nat.reduceLeDiff, s3, s4, s5, s6, s7, s8, s9, s10, g1, g2, g3, g4, g5, g6, g7, g8, g9, g10, g11, g12, g13, true_and])
    exact ⟨by omega, fun id hid => by simp (disch := omega) only [z0d]; exact g15 id hid, zgx g16 hy (by rw [O]; simp)⟩
   ·(simp (disch := omega) only [go_sem, Nat.reduceBEq, ↓reduceIte, Nat.reduceAdd, Nat.reduceLeDiff])
    repeat' (first | ((refine zqh fun K hK => ?_); (simp (disch := omega) only [go_sem, Nat.reduceBEq, ↓reduceIte, reduceCtorEq, Nat.reduceAdd, Nat.reduceLeDiff, s3, s5, s7, s9, s10, g6, g7, g10, g11, g12, hf, O])) | ((refine zqm _ rfl (fun hc => ?_) (fun hc => ?_)) <;> (first | (cases hc; done) | ((try simp only [] at hc); (try omega)))) | refine zqn ?_ | (refine hK _ ?_; clear hK K))
    refine z000 ?_
    have hkf : zdr A B = false := by
     rw [hcm]
     unfold z5b
     rw [List.all_eq_false]
     exact ⟨y, List.mem_of_getElem? hy, by rw [hB]; simp [O]⟩
    repeat' (first | refine zqx ?_ | refine zqu (by (simp (disch := omega) only [go_sem, Nat.reduceBEq, ↓reduceIte, Nat.reduceAdd, Nat.reduceLeDiff, s5, g6, g10]); rfl) rfl ?_)
    refine z7p hkf (fun id hid => ?_) ?_
    ·(simp (disch := omega) only [go_sem])
     simp (disch := omega) only [z0d]
     exact g15 id hid
    ·(simp (disch := omega) only [go_sem, Nat.reduceLeDiff])
     all_goals omega
  ·(simp (disch := omega) only [go_sem, Nat.reduceBEq, ↓reduceIte, Nat.reduceAdd, Nat.reduceLeDiff])
   repeat' (first | ((refine zqh fun K hK => ?_); (simp (disch := omega) only [go_sem, Nat.reduceBEq, ↓reduceIte, reduceCtorEq, Nat.reduceAdd, Nat.reduceLeDiff, s3, s7, s9, s10, g7, g11, g12, hf])) | ((refine zqm _ rfl (fun hc => ?_) (fun hc => ?_)) <;> (first | (cases hc; done) | ((try simp only [] at hc); (try omega)))) | refine zqk ?_ | (refine hK _ ?_; clear hK K))
   refine zer ?_
   (simp (disch := omega) only [go_sem, Nat.reduceBEq, Nat.reduceLeDiff, s3, s4, s5, s6, s7, s8, s9, s10, g1, g2, g3, g4, g5, g6, g7, g8, g9, g10, g11, g12, g13, true_and])
   exact ⟨by omega, fun id hid => by simp (disch := omega) only [z0d]; exact g15 id hid, zgx g16 hy (by rw [hB]; rfl)⟩
 ·rintro ls st ⟨g1, g2, g3, g4, g5, g6, g7, g8, g9, g10, g11, g12, g13, g14, g15, g16⟩ hnd hlt hall
  unfold zjy
  refine zqv (Sem.walk (own := []) z1v (by decide +kernel) ?_)
  have hkt : z5b A B = true := by
   unfold z5b
   rw [List.all_eq_true]
   intro y hy
   obtain ⟨i, hi, e⟩ := List.getElem_of_mem hy
   exact g16 i (hall i (by rw [zk2 nk, List.length_map]; exact hi)) y (by rw [List.getElem?_eq_getElem hi, e])
  rw [hkt] at hcm
  rw [if_pos hcm] at c7
  repeat' (first | refine zqj ?_ | ((first | refine zqh fun K hK => ?_ | refine zqs (c7) ?_); (simp (disch := omega) only [go_sem, Nat.reduceBEq, ↓reduceIte, Nat.reduceAdd, Nat.reduceLeDiff, g4, g5, g8, g9])) | refine zqa ?_ | (refine hK _ ?_; clear hK K))
  obtain ⟨L, hL⟩ : ∃ L, L = zga A B := ⟨_, rfl⟩
  have hLn : L.Nodup := by rw [hL]; exact zts nb
  have hLl : L.length <= 1000000 := by rw [hL, <- zi4]; have h1 := zmd A (edT B); have h2 := zss B; omega
  (refine z6x (fun U st => ∃ (i : Nat), U = L.length - i /\ st.t 4 = .ptr 5 0 /\ st.t 6 = .ptr 9 0 /\ st.t 85 = z0m L /\ st.t 86 = .int .i64 L.length /\ st.t 87 = .int .i64 i /\ st.H (5) = some (.box 57 [.nmp, .nmp, .nmp]) /\ st.H (9) = some (.box 57 [.mp 6, .mp 7, .mp 8]) /\ st.H (6) = some (.map (mapI z1o ((nodesT A).map unP))) /\ st.H (7) = some (.map (mapI z1o ((nodesT B).map unP))) /\ st.H (8) = some (.map (setI (L.take i))) /\ (i <= L.length) /\ (11 <= st.nx) /\ (∀ id, id < 3 -> st.H id = H id)) ?_ ?_); rotate_left; (rintro U st ⟨i, rfl, w4, w6, w85, w86, w87, wH5, wH9, wH6, wH7, wH8, wp0, wp1, wp2⟩); rotate_left
  ·(refine ⟨_, 0, rfl, ?_⟩); (simp (disch := omega) only [go_sem, Nat.reduceBEq, true_and, Int.natCast_zero, z0m, hL, g6, g7, g10, g11, g12, g13])
   exact ⟨rfl, g14, fun id hid => by simp (disch := omega) only [z0d]; exact g15 id hid⟩
  have t5 := z01 (show 5 < st.nx by omega)
  have t6 := z01 (show 6 < st.nx by omega)
  have t7 := z01 (show 7 < st.nx by omega)
  have t8 := z01 (show 8 < st.nx by omega)
  have t9 := z01 (show 9 < st.nx by omega)
  by_cases hi : i < L.length
  ·have hnew : L[i] ∉ L.take i := by
    intro hmem
    obtain ⟨j, hj, e⟩ := List.getElem_of_mem hmem
    rw [List.length_take] at hj
    rw [List.getElem_take] at e
    have := (List.getElem_inj hLn).1 e
    omega
   have hfk := zct L[i] (L.take i)
   rw [if_neg hnew] at hfk
   have hsn := zak (L.take i) L[i]
   have htk : L.take (i + 1) = L.take i ++ [L[i]] := List.take_succ_eq_append_getElem hi
   repeat' (first | ((first | refine zqh fun K hK => ?_ | refine zqr fun K hK => ?_); (simp (disch := omega) only [go_sem, Nat.reduceBEq, ↓reduceIte, reduceCtorEq, Nat.reduceAdd, Nat.reduceLeDiff, w6, w85, w86, w87, wH9, wH8, t8, t9, z0m, hfk, hsn])) | (refine zqd _ rfl ?_ ?_ <;> intro hc <;> (((try simp only [z06] at hc); (try omega)))) | refine zqa ?_ | refine zqb ?_ | refine zqv ?_ | refine zqy ?_ | (refine hK _ ?_; clear hK K))
   refine ⟨_, SealTo.refl _, ?_⟩
   repeat' (first | ((refine zqr fun K hK => ?_); (simp (disch := omega) only [go_sem, Nat.reduceBEq, ↓reduceIte, w87])) | (refine hK _ ?_; clear hK K))
   (refine Exists.intro _ (And.intro ?_ ⟨i + 1, rfl, ?_⟩)); rotate_left; (simp (disch := omega) only [go_sem, Nat.reduceBEq, Nat.reduceLeDiff, w4, w6, w85, w86, w87, wH5, wH9, wH6, wH7, wH8, true_and, Int.natCast_add, Int.natCast_one, t5, t6, t7, t8, t9, htk]); rotate_left
   ·omega
   ·exact ⟨by omega, by omega, fun id hid => by simp (disch := omega) only [z0d]; exact wp2 id hid⟩
  ·repeat' (first | ((refine zqh fun K hK => ?_); (simp (disch := omega) only [go_sem, ↓reduceIte, w86, w87])) | (refine zqd _ rfl ?_ ?_ <;> intro hc <;> (((try simp only [z06] at hc); (try omega)))) | refine zqc ?_ | refine zqv ?_ | refine zqz ?_ | refine zqp ?_ | (refine hK _ ?_; clear hK K))
   refine ⟨_, SealTo.refl _, ?_⟩
   repeat' (first | ((refine zqh fun K hK => ?_); (simp (disch := omega) only [go_sem, Nat.reduceBEq, ↓reduceIte, Nat.reduceAdd, Nat.reduceLeDiff, w4, w6, wH5, wH9])) | refine zqn ?_ | refine zqu (by (simp (disch := omega) only [go_sem, Nat.reduceBEq, ↓reduceIte, Nat.reduceAdd, Nat.reduceLeDiff, w4, wH5]); rfl) rfl ?_ | (refine hK _ ?_; clear hK K))
   have hta : L.take i = L := List.take_of_length_le (by omega)
   rw [hta, hL] at wH8
   refine ⟨fun id hid => ?_, by rw [hcm], ?_, fun _ => ⟨?_, ?_, ?_⟩⟩
   ·(simp (disch := omega) only [go_sem])
    simp (disch := omega) only [z0d]
    exact wp2 id hid
   ·(simp (disch := omega) only [go_sem])
    all_goals omega
   ·(simp (disch := omega) only [go_sem, Nat.reduceBEq, wH6])
    rfl
   ·(simp (disch := omega) only [go_sem, Nat.reduceBEq, wH7])
    rfl
   ·(simp (disch := omega) only [go_sem, Nat.reduceBEq, wH8])
namespace Tr
def TT.zero : TT := .mk 0 0 Idv.zero ByteArray.empty ByteArray.empty false [] [] []
def zdj (A B : T) : TT × Int := if zdr A B = true then (zbx A B, 0) else (TT.zero, 1)
end Tr
set_option maxHeartbeats 16000000 in
theorem zmn (A B : T) (fa : Fit50 A) (fb : Fit50 B) : PC prog 8 [z1o A, z1o B] (.tup [z9g (zdj A B).1, .int .i64 (zdj A B).2]) := by
 refine z3q 3 (by simp only [pureD.pureL, z0h, Bool.and_self]) (by simp only [pureD, pureD.pureL, z3y, Bool.and_self]) (z30 [] func8 rfl (by decide +kernel) rfl ?_)
 show awp _ _ (Code.seq _ _) _ _
 rw [show Tryd.f8.results.toList = [.cell 4 33, .tmp 5] from rfl]
 repeat' (first | ((refine zqh fun K hK => ?_); (simp (disch := omega) only [go_sem, Nat.reduceBEq, ↓reduceIte, Nat.reduceAdd, Nat.reduceLeDiff])) | (refine hK _ ?_; clear hK K))
 refine z3g ((zxr A B fa fb _).mono ?_)
 rintro r1 H1 n1 ⟨h1, rfl, h2, h3⟩
 have a0 : H1 0 = some (.box 27 (z04 A)) := h1 0 (by decide)
 have a1 : H1 1 = some (.box 27 (z04 B)) := h1 1 (by decide)
 have a2 : H1 2 = some (.box 33 [.int .i64 0, .int .i64 0, .int .i64 0, .int .i64 0, .int .i64 0, .str ByteArray.empty, .str ByteArray.empty, .bool false, .nil, .nil, .nil]) := h1 2 (by decide)
 have k0 := z01 (show 0 < n1 by omega)
 have k1 := z01 (show 1 < n1 by omega)
 have k2 := z01 (show 2 < n1 by omega)
 cases hc : zdr A B
 ·have e : zdj A B = (TT.zero, 1) := by unfold zdj; rw [if_neg (by rw [hc]; decide)]
  (try (simp (disch := omega) only [go_sem, Nat.reduceBEq, ↓reduceIte, Nat.reduceAdd, Nat.reduceLeDiff])); repeat' (first | refine nxt ?_ | ((refine zqh fun K hK => ?_); (simp (disch := omega) only [go_sem, Nat.reduceBEq, ↓reduceIte, Nat.reduceAdd, Nat.reduceLeDiff, a2, k2])) | (refine zqd _ rfl ?_ ?_ <;> intro hc <;> (first | (cases hc; done) | ((try simp only [] at hc); (try omega)))) | refine zqu (by (simp (disch := omega) only [go_sem, Nat.reduceBEq, ↓reduceIte, Nat.reduceAdd, Nat.reduceLeDiff, a2, k2]); rfl) rfl ?_ | (refine hK _ ?_; clear hK K))
  rw [e]
  refine z1e (nx := 0) rfl ?_
  show Le _ (D.tup [z9g TT.zero, D.int IntKind.i64 1])
  rw [z9g, z1n]
  exact Le.tup ⟨Le.agg ⟨Le.refl _, Le.refl _, Le.refl _, Le.refl _, Le.refl _, Le.refl _, Le.refl _, Le.refl _, Le.nil 2, Le.nil 2, Le.nil 11, trivial⟩, Le.refl _, trivial⟩
 ·obtain ⟨g6, g7, g8⟩ := h3 hc
  have e : zdj A B = (zbx A B, 0) := by unfold zdj; rw [if_pos hc]
  have k6 := z01 (show 6 < n1 by omega)
  have k7 := z01 (show 7 < n1 by omega)
  have k8 := z01 (show 8 < n1 by omega)
  have cf := fun H nx h1 h2 h3 h4 h5 h6 => zxv A B (zga A B) (zk1 hc) fa.sz fb.sz 6 7 8 B (z07 B) fb.sz H nx h1 h2 h3 h4 h5 h6
  (try (simp (disch := omega) only [go_sem, Nat.reduceBEq, ↓reduceIte, Nat.reduceAdd, Nat.reduceLeDiff])); repeat' (first | refine nxt ?_ | ((refine zqh fun K hK => ?_); (simp (disch := omega) only [go_sem, Nat.reduceBEq, ↓reduceIte, Nat.reduceAdd, Nat.reduceLeDiff, a1, k1])) | (refine zqd _ rfl ?_ ?_ <;> intro hc <;> (first | (cases hc; done) | ((try simp only [] at hc); (try omega)))) | (refine hK _ ?_; clear hK K))
  refine z3t (cf _ _ ?_ ?_ ?_ ?_ ?_ ?_) ?_
  ·(simp (disch := omega) only [go_sem])
   all_goals omega
  ·(simp (disch := omega) only [go_sem])
   all_goals omega
  ·(simp (disch := omega) only [go_sem])
   all_goals omega
  ·(simp (disch := omega) only [go_sem, k6])
   exact g6
  ·(simp (disch := omega) only [go_sem, k7])
   exact g7
  ·(simp (disch := omega) only [go_sem, k8])
   exact g8
  ·(try (simp (disch := omega) only [go_sem, Nat.reduceBEq, ↓reduceIte, Nat.reduceAdd, Nat.reduceLeDiff, a2, k2])); repeat' (first | refine nxt ?_ | refine zqu (by (simp (disch := omega) only [go_sem, Nat.reduceBEq, ↓reduceIte, Nat.reduceLeDiff, a2, k2]); rfl) rfl ?_ | (refine hK _ ?_; clear hK K))
   rw [e]
   refine z1e (nx := 0) (by simp only [pureD.pureL, pureD, z6f, Bool.and_self]) ?_
   exact Le.refl _
namespace Tr
def secL (n : Int) (label : ByteArray) (l : List ByteArray) : T := .mk ⟨1, 0, n⟩ 2 label [] (l.map fun s => ⟨s, Idv.zero⟩) []
def zm1 (ks : List T) : T := .mk Idv.zero 0 ByteArray.empty [] [] ks
def ex1 : T := secL 1 ⟨#[49]⟩ [⟨#[97]⟩, ⟨#[98]⟩]
def ex2 : T := secL 1 ⟨#[49]⟩ [⟨#[97]⟩, ⟨#[99]⟩]
def ex3 : T := secL 1 ⟨#[49]⟩ []
def ex4 : T := secL 2 ⟨#[50]⟩ []
def exK1 : TT := .mk 0 2 ⟨1, 0, 1⟩ ⟨#[49]⟩ ByteArray.empty false [] [⟨0, ⟨#[97]⟩⟩, ⟨2, ⟨#[98]⟩⟩, ⟨1, ⟨#[99]⟩⟩] []
def exK2 : TT := .mk 2 0 ⟨1, 0, 1⟩ ByteArray.empty ByteArray.empty true [] [] []
def exK3 : TT := .mk 0 2 ⟨1, 0, 2⟩ ⟨#[50]⟩ ByteArray.empty false [] [] []
def exK4 : TT := .mk 1 2 ⟨1, 0, 1⟩ ⟨#[49]⟩ ByteArray.empty true [] [] []
def exD1 : TT := .mk 0 0 Idv.zero ByteArray.empty ByteArray.empty false [] [] [exK1]
def exD2 : TT := .mk 0 0 Idv.zero ByteArray.empty ByteArray.empty false [] [] [exK2, exK3, exK4]
theorem exR1 : zdj (zm1 [ex1]) (zm1 [ex2]) = (exD1, 0) := by kernel_rfl
theorem exR2 : zdj (zm1 [ex3, ex4]) (zm1 [ex4, ex3]) = (exD2, 0) := by kernel_rfl
end Tr
theorem z6h (n : Int) (label : ByteArray) (l : List ByteArray) (hl : l.length <= 100) : PC prog 21 [.int .i64 n, .str label, z2e l] (z1o (secL n label l)) := by
 refine z3q 4 (by simp only [pureD.pureL, z3n, pureD, Bool.and_self]) (z0h _) (z30 [] func21 rfl (by decide +kernel) rfl ?_)
 show awp _ _ (Code.seq _ _) _ _
 rw [show Tryd.f21.results.toList = [.cell 6 27] from rfl]
 repeat' (first | refine nxt ?_ | ((refine z22 (N := 2) rfl fun K hK => ?_); (simp (disch := omega) only [go_sem, Nat.reduceBEq, ↓reduceIte, Nat.reduceAdd, Nat.reduceLeDiff])) | (refine hK _ ?_; clear hK K))
 refine z6d fun K hK => ?_
 (simp (disch := omega) only [go_sem])
 refine hK _ _ (zha (b := 1) (off := 6) (e := 27) 83 (by (simp (disch := omega) only [go_sem, Nat.reduceBEq]); rfl) rfl) ?_
 clear hK K
 repeat' (refine zqa ?_)
 (refine z6x (fun U st => ∃ (i : _), U = l.length - i /\ st.t 2 = z2e l /\ st.t 6 = .ptr 0 0 /\ st.t 7 = .ptr 1 0 /\ st.t 8 = .int .i64 i /\ st.H (0) = some (.box 27 [.int .i64 0, .int .i64 0, .int .i64 0, .int .i64 0, .str ByteArray.empty, .nil, .nil, .nil]) /\ st.H (1) = some (.box 27 [.int .i64 1, .int .i64 0, .int .i64 n, .int .i64 2, .str label, .nil, .osl 2 i, .nil]) /\ st.H (2) = some (.row 83 i (((l.take i).map fun s => (⟨s, Idv.zero⟩ : Wd)).flatMap zch)) /\ st.nx = 3 /\ (i <= l.length)) ?_ ?_); rotate_left; (rintro U st ⟨i, rfl, q2, q6, q7, q8, qH0, qH1, qH2, qnx, qp0⟩); rotate_left
 ·(refine ⟨_, 0, rfl, ?_⟩); (simp (disch := omega) only [go_sem, Nat.reduceBEq, Nat.reduceAdd, and_self, Int.natCast_zero, List.flatMap_nil, List.map_nil, z2e])
 by_cases hi : i < l.length
 ·repeat' (first | refine nxt ?_ | ((first | refine zqh fun K hK => ?_ | refine zqr fun K hK => ?_ | refine zqq (by decide +kernel) fun K hK => ?_); (simp (disch := omega) only [go_sem, Nat.reduceBEq, ↓reduceIte, reduceCtorEq, Nat.reduceAdd, Nat.reduceMul, Nat.reduceLeDiff, Nat.reduceLT, q2, q7, q8, qH1, qH2, qnx, z2e])) | (refine zqd _ rfl ?_ ?_ <;> intro hc <;> (((try simp only [z06] at hc); (try omega)))) | refine Abs.zqv ?_ | (refine hK _ ?_; clear hK K))
  (refine Exists.intro _ (And.intro ?_ ⟨i + 1, rfl, ?_⟩)); rotate_left; (simp (disch := omega) only [go_sem, Nat.reduceBEq, q2, q6, q7, q8, qH0, qH1, qH2, true_and, Int.natCast_add, Int.natCast_one, List.flatMap_append, List.flatMap_cons, List.flatMap_nil, List.map_append, List.map_cons, List.map_nil, List.append_nil, List.take_succ_eq_append_getElem hi, zch]); rotate_left
  ·omega
  ·exact ⟨rfl, by omega⟩
 ·repeat' (first | refine nxt ?_ | ((refine zqh fun K hK => ?_); (simp (disch := omega) only [go_sem, Nat.reduceBEq, ↓reduceIte, Nat.reduceAdd, Nat.reduceLeDiff, q2, q6, q7, q8, qH0, qH1, qnx, z2e])) | (refine zqd _ rfl ?_ ?_ <;> intro hc <;> (((try simp only [z06] at hc); (try omega)))) | refine Abs.zqv ?_ | refine zqz ?_ | refine zqu (by (simp (disch := omega) only [go_sem, Nat.reduceBEq, ↓reduceIte, Nat.reduceAdd, Nat.reduceLeDiff, q6, qH0]); rfl) rfl ?_ | (refine hK _ ?_; clear hK K))
  have hie : i = (l.map fun s => (⟨s, Idv.zero⟩ : Wd)).length := by rw [List.length_map]; omega
  have hta : l.take i = l := List.take_of_length_le (by omega)
  rw [hta] at qH2
  rw [z1o, z0t]
  refine ⟨_, zk8 (k := 3) (by simp [pureD.pureL, pureD]) (z0e (z0b 2 rfl) (z0e (z0b 2 rfl) (z0e (z0b 2 rfl) (z0e (z0b 2 rfl) (z0e (z0b 2 rfl) (z0e (z0b 2 rfl) (z0e ?_ (z0e (z0b 2 rfl) z4s)))))))), Le.agg ⟨Le.refl _, Le.refl _, Le.refl _, Le.refl _, Le.refl _, Le.nil 4, Le.refl _, Le.nil 8, trivial⟩⟩
  rw [hie]
  refine z1s (f := zch) (l := l.map fun s => (⟨s, Idv.zero⟩ : Wd)) 1 ?_ zp7 zvv (fun _ => rfl) (fun _ => rfl)
  rw [hie] at qH2
  (simp (disch := omega) only [go_sem, Nat.reduceBEq, qH2])
theorem zuf (a b : T) : Le (.agg [.int .i64 0, .int .i64 0, .int .i64 0, .int .i64 0, .str ByteArray.empty, .nil, .nil, .rsl true 8 [.agg (z04 a), .agg (z04 b)]]) (z1o (zm1 [a, b])) := by
 rw [z1o, z0t (zm1 [a, b])]
 exact Le.agg ⟨Le.refl _, Le.refl _, Le.refl _, Le.refl _, Le.refl _, Le.nil 4, Le.nil 4, Le.rsl, trivial⟩
theorem le_sec (a : T) : Le (.agg [.int .i64 0, .int .i64 0, .int .i64 0, .int .i64 0, .str ByteArray.empty, .nil, .nil, .rsl true 8 [.agg (z04 a)]]) (z1o (zm1 [a])) := by
 rw [z1o, z0t (zm1 [a])]
 exact Le.agg ⟨Le.refl _, Le.refl _, Le.refl _, Le.refl _, Le.refl _, Le.nil 4, Le.nil 4, Le.rsl, trivial⟩
theorem fit_ex : (Fit50 (zm1 [ex1]) /\ Fit50 (zm1 [ex2])) /\ Fit50 (zm1 [ex3, ex4]) /\ Fit50 (zm1 [ex4, ex3]) := by
 refine ⟨⟨⟨?_, ?_, ?_⟩, ⟨?_, ?_, ?_⟩⟩, ⟨?_, ?_, ?_⟩, ⟨?_, ?_, ?_⟩⟩ <;> decide +kernel
theorem zr4 : PC prog 6 [] (.bool true) := by
 obtain ⟨⟨f1, f2⟩, f3, f4⟩ := fit_ex
 have s1 : PC prog 21 [.int .i64 1, .str ⟨#[49]⟩, .rsl true 1 [.str ⟨#[97]⟩, .str ⟨#[98]⟩]] (z1o ex1) := PC.le (z6h 1 ⟨#[49]⟩ [⟨#[97]⟩, ⟨#[98]⟩] (by decide)) rfl ⟨Le.refl _, Le.refl _, Le.rsl, trivial⟩
 have s2 : PC prog 21 [.int .i64 1, .str ⟨#[49]⟩, .rsl true 1 [.str ⟨#[97]⟩, .str ⟨#[99]⟩]] (z1o ex2) := PC.le (z6h 1 ⟨#[49]⟩ [⟨#[97]⟩, ⟨#[99]⟩] (by decide)) rfl ⟨Le.refl _, Le.refl _, Le.rsl, trivial⟩
 have s3 : PC prog 21 [.int .i64 1, .str ⟨#[49]⟩, .nil] (z1o ex3) := PC.le (z6h 1 ⟨#[49]⟩ [] (by decide)) rfl ⟨Le.refl _, Le.refl _, Le.nil 1, trivial⟩
 have s4 : PC prog 21 [.int .i64 2, .str ⟨#[50]⟩, .nil] (z1o ex4) := PC.le (z6h 2 ⟨#[50]⟩ [] (by decide)) rfl ⟨Le.refl _, Le.refl _, Le.nil 1, trivial⟩
 have d1 : PC prog 8 [.agg [.int .i64 0, .int .i64 0, .int .i64 0, .int .i64 0, .str ByteArray.empty, .nil, .nil, .rsl true 8 [.agg (z04 ex1)]], .agg [.int .i64 0, .int .i64 0, .int .i64 0, .int .i64 0, .str ByteArray.empty, .nil, .nil, .rsl true 8 [.agg (z04 ex2)]]] _ := PC.le (zmn (zm1 [ex1]) (zm1 [ex2]) f1 f2) (by simp only [pureD.pureL, pureD, z1z, Bool.and_self]) ⟨le_sec ex1, le_sec ex2, trivial⟩
 have d2 : PC prog 8 [.agg [.int .i64 0, .int .i64 0, .int .i64 0, .int .i64 0, .str ByteArray.empty, .nil, .nil, .rsl true 8 [.agg (z04 ex3), .agg (z04 ex4)]], .agg [.int .i64 0, .int .i64 0, .int .i64 0, .int .i64 0, .str ByteArray.empty, .nil, .nil, .rsl true 8 [.agg (z04 ex4), .agg (z04 ex3)]]] _ := PC.le (zmn (zm1 [ex3, ex4]) (zm1 [ex4, ex3]) f3 f4) (by simp only [pureD.pureL, pureD, z1z, Bool.and_self]) ⟨zuf ex3 ex4, zuf ex4 ex3, trivial⟩
 rw [exR1] at d1
 rw [exR2] at d2
 refine z3q 1 rfl rfl (z30 [] func6 rfl (by decide +kernel) rfl ?_)
 show awp _ _ (Code.seq _ _) _ _
 repeat' (first | refine nxt ?_ | ((first | refine z22 (N := 3) rfl fun K hK => ?_ | refine zqs (s1) ?_ | refine zqs (s2) ?_ | refine zqs (s3) ?_ | refine zqs (s4) ?_ | refine zqs (d1) ?_ | refine zqs (d2) ?_); (simp (disch := omega) only [go_sem, Nat.reduceBEq, ↓reduceIte, reduceCtorEq, Nat.reduceAdd, Nat.reduceMul, Nat.reduceLeDiff])) | (refine hK _ ?_; clear hK K))
 have k1 : exD1.kids = [exK1] := rfl
 have k2 : exD2.kids = [exK2, exK3, exK4] := rfl
 have w1 : exK1.words = [⟨0, ⟨#[97]⟩⟩, ⟨2, ⟨#[98]⟩⟩, ⟨1, ⟨#[99]⟩⟩] := rfl
 have hi0 : ∀ (d : D) (ds : List D), zjj (d :: ds) 0 = some d := fun d ds => by unfold zjj; simp
 have hi1 : ∀ (d e : D) (ds : List D), zjj (d :: e :: ds) 1 = some e := fun d e ds => by unfold zjj; rw [if_pos (by simp only [List.length_cons]; omega)]; rfl
 have hi2 : ∀ (d e f : D) (ds : List D), zjj (d :: e :: f :: ds) 2 = some f := fun d e f ds => by unfold zjj; rw [if_pos (by simp only [List.length_cons]; omega)]; rfl
 have m1 : exK2.moved = true := rfl
 have m2 : exK2.state = 2 := rfl
 have m3 : exK2.label = ByteArray.empty := rfl
 have m4 : exK3.state = 0 := rfl
 have m5 : exK4.state = 1 := rfl
 have m6 : exK4.label = ⟨#[49]⟩ := rfl
 repeat' (first | ((refine zqh fun K hK => ?_); (simp (disch := omega) only [go_sem, Nat.reduceBEq, ↓reduceIte, reduceCtorEq, Nat.reduceAdd, Nat.reduceLeDiff, k1, k2, w1, hi0, hi1, hi2, m1, m2, m3, z86, z26, zxy, z33, List.map_cons, List.map_nil, List.length_cons, List.length_nil, List.append_eq, List.cons_append, List.nil_append])) | (refine zqd _ rfl ?_ ?_ <;> intro hc <;> (first | (cases hc; done) | ((try simp only [z06] at hc); (try omega)))) | refine nxt ?_ | refine zqu (by (simp (disch := omega) only [go_sem, Nat.reduceBEq]); rfl) rfl ?_ | (refine hK _ ?_; clear hK K))
 all_goals exact z05 rfl
theorem zye (a b : T) (ha : zh4 a = true) (hb : zh4 b = true) : PC prog 7 [z1o a, z1o b] (.bool (zsd a 30 && zsd b 30)) := by
 have c1 := pc_Few a ha 30 (by decide) (by decide)
 have c2 := pc_Few b hb 30 (by decide) (by decide)
 refine z3q 1 (by simp only [pureD.pureL, z0h, Bool.and_self]) rfl (z30 [] func7 rfl (by decide +kernel) rfl ?_)
 show awp _ _ (Code.seq _ _) _ _
 cases h1 : zsd a 30 <;> cases h2 : zsd b 30
 all_goals
  rw [h1] at c1
  rw [h2] at c2
  repeat' (first | ((first | refine zqh fun K hK => ?_ | refine zqs (c1) ?_ | refine zqs (c2) ?_); (simp (disch := omega) only [go_sem, Nat.reduceBEq, ↓reduceIte, Nat.reduceAdd, Nat.reduceLeDiff])) | refine nxt ?_ | refine zqu (by simp only [go_sem]; rfl) rfl ?_ | (refine hK _ ?_; clear hK K))
  exact z05 rfl
end
section
open Abs Facts Tr
namespace Tr
structure Stp where
 kind : Int
 label : ByteArray
instance : DecidableEq Stp := fun a b => decidable_of_iff (a.kind = b.kind /\ a.label = b.label) ⟨fun ⟨h1, h2⟩ => by cases a; cases b; simp_all, fun h => by subst h; exact ⟨rfl, rfl⟩⟩
inductive It where
 | mk (kind : Int) (at_ to : List Stp) (wh nth : Int) (unit : T) (old new : List ByteArray) (label for_ : ByteArray) (sk sd : Int) (se : ByteArray) (act item day : Int) (event : ByteArray) (by_ : List It)
namespace It
def kind : It -> Int | .mk k _ _ _ _ _ _ _ _ _ _ _ _ _ _ _ _ _ => k
def at_ : It -> List Stp | .mk _ a _ _ _ _ _ _ _ _ _ _ _ _ _ _ _ _ => a
def to : It -> List Stp | .mk _ _ a _ _ _ _ _ _ _ _ _ _ _ _ _ _ _ => a
def wh : It -> Int | .mk _ _ _ a _ _ _ _ _ _ _ _ _ _ _ _ _ _ => a
def nth : It -> Int | .mk _ _ _ _ a _ _ _ _ _ _ _ _ _ _ _ _ _ => a
def unit : It -> T | .mk _ _ _ _ _ a _ _ _ _ _ _ _ _ _ _ _ _ => a
def old : It -> List ByteArray | .mk _ _ _ _ _ _ a _ _ _ _ _ _ _ _ _ _ _ => a
def new : It -> List ByteArray | .mk _ _ _ _ _ _ _ a _ _ _ _ _ _ _ _ _ _ => a
def label : It -> ByteArray | .mk _ _ _ _ _ _ _ _ a _ _ _ _ _ _ _ _ _ => a
def for_ : It -> ByteArray | .mk _ _ _ _ _ _ _ _ _ a _ _ _ _ _ _ _ _ => a
def sk : It -> Int | .mk _ _ _ _ _ _ _ _ _ _ a _ _ _ _ _ _ _ => a
def sd : It -> Int | .mk _ _ _ _ _ _ _ _ _ _ _ a _ _ _ _ _ _ => a
def se : It -> ByteArray | .mk _ _ _ _ _ _ _ _ _ _ _ _ a _ _ _ _ _ => a
def act : It -> Int | .mk _ _ _ _ _ _ _ _ _ _ _ _ _ a _ _ _ _ => a
def item : It -> Int | .mk _ _ _ _ _ _ _ _ _ _ _ _ _ _ a _ _ _ => a
def day : It -> Int | .mk _ _ _ _ _ _ _ _ _ _ _ _ _ _ _ a _ _ => a
def event : It -> ByteArray | .mk _ _ _ _ _ _ _ _ _ _ _ _ _ _ _ _ a _ => a
def by_ : It -> List It | .mk _ _ _ _ _ _ _ _ _ _ _ _ _ _ _ _ _ a => a
end It
mutual
theorem ind1I {p : It -> Prop} (h : ∀ t, (∀ k ∈ t.by_, p k) -> p t) : ∀ t, p t
 | .mk a0 a1 a2 a3 a4 a5 a6 a7 a8 a9 a10 a11 a12 a13 a14 a15 a16 ks => h (.mk a0 a1 a2 a3 a4 a5 a6 a7 a8 a9 a10 a11 a12 a13 a14 a15 a16 ks) (ind2I h ks)
theorem ind2I {p : It -> Prop} (h : ∀ t, (∀ k ∈ t.by_, p k) -> p t) : ∀ (ks : List It), ∀ k ∈ ks, p k
 | [], k, O => by cases O
 | t :: ts, k, O => by
  rcases List.mem_cons.1 O with e | O
  ·rw [e]; exact ind1I h t
  ·exact ind2I h ts k O
end
mutual
def recI {β : Type} (f : It -> List β -> β) : It -> β
 | .mk a0 a1 a2 a3 a4 a5 a6 a7 a8 a9 a10 a11 a12 a13 a14 a15 a16 ks => f (.mk a0 a1 a2 a3 a4 a5 a6 a7 a8 a9 a10 a11 a12 a13 a14 a15 a16 ks) (zym f ks)
def zym {β : Type} (f : It -> List β -> β) : List It -> List β
 | [] => []
 | t :: ts => recI f t :: zym f ts
end
theorem zon {β : Type} (f : It -> List β -> β) : ∀ ks, zym f ks = ks.map (recI f)
 | [] => rfl
 | t :: ts => by simp [zym, zon f ts]
theorem recI_eq {β : Type} (f : It -> List β -> β) (t : It) : recI f t = f t (t.by_.map (recI f)) := by
 cases t
 rw [recI, zon]; rfl
end Tr
namespace Abs
open Tr
def cellsSt (s : Stp) : List D := [.int .i64 s.kind, .str s.label]
def encSt (s : Stp) : D := .agg (cellsSt s)
def z88 (l : List Stp) : D := .rsl false 2 (l.map encSt)
@[go_sem] theorem encSt_agg (s : Stp) : encSt s = .agg [.int .i64 s.kind, .str s.label] := rfl
theorem zmz (l : List Stp) : pureD (z88 l) = true := by simp only [z88, pureD]; exact z0a (fun _ => rfl) l
@[go_sem] theorem pureL_encSt (l : List Stp) : pureD.pureL (l.map encSt) = true := z0a (fun _ => rfl) l
def zoo (x : It) (ks : List (List D)) : List D := .int .i64 x.kind :: z88 x.at_ :: z88 x.to :: .int .i64 x.wh :: .int .i64 x.nth :: (z04 x.unit ++ [z2e x.old, z2e x.new, .str x.label, .str x.for_, .int .i64 x.sk, .int .i64 x.sd, .str x.se, .int .i64 x.act, .int .i64 x.item, .int .i64 x.day, .str x.event, .rsl false 25 (ks.map .agg)])
def z1c (x : It) : List D := recI zoo x
def encIt (x : It) : D := .agg (z1c x)
def zhb (l : List It) : D := .rsl false 25 (l.map encIt)
theorem zn0 (x : It) : z1c x = .int .i64 x.kind :: z88 x.at_ :: z88 x.to :: .int .i64 x.wh :: .int .i64 x.nth :: (z04 x.unit ++ [z2e x.old, z2e x.new, .str x.label, .str x.for_, .int .i64 x.sk, .int .i64 x.sd, .str x.se, .int .i64 x.act, .int .i64 x.item, .int .i64 x.day, .str x.event, zhb x.by_]) := by
 unfold z1c
 rw [recI_eq, zoo, List.map_map]; rfl
theorem z0y (x : It) : z1c x = [.int .i64 x.kind, z88 x.at_, z88 x.to, .int .i64 x.wh, .int .i64 x.nth, .int .i64 x.unit.id.act, .int .i64 x.unit.id.item, .int .i64 x.unit.id.n, .int .i64 x.unit.kind, .str x.unit.label, z2g x.unit.head, z2g x.unit.words, z0l x.unit.kids,
  z2e x.old, z2e x.new, .str x.label, .str x.for_, .int .i64 x.sk, .int .i64 x.sd, .str x.se, .int .i64 x.act, .int .i64 x.item, .int .i64 x.day, .str x.event, zhb x.by_] := by
 rw [zn0, z0t]; rfl
@[go_sem] theorem encIt_agg (x : It) : encIt x = .agg (z1c x) := rfl
@[go_sem] theorem z9n (x : It) : (z1c x).length = 25 := by rw [z0y]; rfl
@[go_sem] theorem zku (x : It) : (z1c x)[0]? = some (.int .i64 x.kind) := by rw [z0y]; rfl
@[go_sem] theorem zr8 (x : It) : (z1c x)[1]? = some (z88 x.at_) := by rw [z0y]; rfl
@[go_sem] theorem zr9 (x : It) : (z1c x)[2]? = some (z88 x.to) := by rw [z0y]; rfl
@[go_sem] theorem zra (x : It) : (z1c x)[3]? = some (.int .i64 x.wh) := by rw [z0y]; rfl
@[go_sem] theorem zn1 (x : It) : (z1c x)[4]? = some (.int .i64 x.nth) := by rw [z0y]; rfl
@[go_sem] theorem zn2 (x : It) : (z1c x)[13]? = some (z2e x.old) := by rw [z0y]; rfl
@[go_sem] theorem zn3 (x : It) : (z1c x)[14]? = some (z2e x.new) := by rw [z0y]; rfl
@[go_sem] theorem ziz (x : It) : (z1c x)[15]? = some (.str x.label) := by rw [z0y]; rfl
@[go_sem] theorem zn4 (x : It) : (z1c x)[16]? = some (.str x.for_) := by rw [z0y]; rfl
@[go_sem] theorem zrb (x : It) : (z1c x)[17]? = some (.int .i64 x.sk) := by rw [z0y]; rfl
@[go_sem] theorem zrc (x : It) : (z1c x)[18]? = some (.int .i64 x.sd) := by rw [z0y]; rfl
@[go_sem] theorem zrd (x : It) : (z1c x)[19]? = some (.str x.se) := by rw [z0y]; rfl
@[go_sem] theorem zn5 (x : It) : (z1c x)[20]? = some (.int .i64 x.act) := by rw [z0y]; rfl
@[go_sem] theorem zkv (x : It) : (z1c x)[21]? = some (.int .i64 x.item) := by rw [z0y]; rfl
@[go_sem] theorem zn6 (x : It) : (z1c x)[22]? = some (.int .i64 x.day) := by rw [z0y]; rfl
@[go_sem] theorem zj0 (x : It) : (z1c x)[23]? = some (.str x.event) := by rw [z0y]; rfl
@[go_sem] theorem zre (x : It) : (z1c x)[24]? = some (zhb x.by_) := by rw [z0y]; rfl
@[go_sem] theorem zkw (x : It) : List.take 8 (List.drop 5 (z1c x)) = z04 x.unit := by rw [z0y, z0t]; rfl
@[go_sem] theorem zyn (x : It) : List.take 3 (List.drop 17 (z1c x)) = [.int .i64 x.sk, .int .i64 x.sd, .str x.se] := by rw [z0y]; rfl
@[go_sem] theorem zkx (x : It) : List.take 25 (z1c x) = z1c x := List.take_of_length_le (by rw [z9n]; decide)
theorem zcx : ∀ x, pureD.pureL (z1c x) = true := by
 refine ind1I fun x ih => ?_
 rw [z0y]
 have O : pureD (zhb x.by_) = true := by
  simp only [zhb, pureD]
  generalize x.by_ = l at ih ⊢
  induction l with
  | nil => rfl
  | cons t l ih2 =>
   simp only [List.map_cons, pureD.pureL, Bool.and_eq_true]
   exact ⟨by simpa only [encIt, pureD] using ih t (by simp), ih2 fun k O => ih k (List.mem_cons_of_mem _ O)⟩
 simp only [pureD.pureL, pureD, zmz, z24, z5q, z3n, O, Bool.and_self]
attribute [go_sem] zcx
end Abs
namespace Tr
structure EIt where
 act : Int
 item : Int
 day : Int
 it : It
end Tr
namespace Abs
def z0o (d : EIt) : List D := .int .i64 d.act :: .int .i64 d.item :: .int .i64 d.day :: z1c d.it
def encEi (d : EIt) : D := .agg (z0o d)
@[go_sem] theorem encEi_agg (d : EIt) : encEi d = .agg (z0o d) := rfl
@[go_sem] theorem zgh (d : EIt) : (z0o d).length = 28 := by unfold z0o; simp only [List.length_cons, z9n]
@[go_sem] theorem cellsEi_act (d : EIt) : (z0o d)[0]? = some (.int .i64 d.act) := rfl
@[go_sem] theorem cellsEi_item (d : EIt) : (z0o d)[1]? = some (.int .i64 d.item) := rfl
@[go_sem] theorem cellsEi_it (d : EIt) : List.take 25 (List.drop 3 (z0o d)) = z1c d.it := by
 show List.take 25 (z1c d.it) = _
 rw [zkx]
@[go_sem] theorem cellsEi_take (d : EIt) : List.take 28 (z0o d) = z0o d := List.take_of_length_le (by rw [zgh]; decide)
theorem zky (d : EIt) : pureD.pureL (z0o d) = true := by unfold z0o; simp only [pureD.pureL, pureD, zcx, Bool.and_self]
attribute [go_sem] zky
@[go_sem] theorem zyo (d : EIt) : (z0o d)[3]? = some (.int .i64 d.it.kind) := by unfold z0o; simp only [List.getElem?_cons_succ, zku]
@[go_sem] theorem cellsEi_at' (d : EIt) : (z0o d)[4]? = some (z88 d.it.at_) := by unfold z0o; simp only [List.getElem?_cons_succ, zr8]
@[go_sem] theorem cellsEi_to' (d : EIt) : (z0o d)[5]? = some (z88 d.it.to) := by unfold z0o; simp only [List.getElem?_cons_succ, zr9]
@[go_sem] theorem cellsEi_wh' (d : EIt) : (z0o d)[6]? = some (.int .i64 d.it.wh) := by unfold z0o; simp only [List.getElem?_cons_succ, zra]
@[go_sem] theorem cellsEi_nth' (d : EIt) : (z0o d)[7]? = some (.int .i64 d.it.nth) := by unfold z0o; simp only [List.getElem?_cons_succ, zn1]
@[go_sem] theorem cellsEi_old' (d : EIt) : (z0o d)[16]? = some (z2e d.it.old) := by unfold z0o; simp only [List.getElem?_cons_succ, zn2]
@[go_sem] theorem cellsEi_new' (d : EIt) : (z0o d)[17]? = some (z2e d.it.new) := by unfold z0o; simp only [List.getElem?_cons_succ, zn3]
@[go_sem] theorem zwj (d : EIt) : (z0o d)[18]? = some (.str d.it.label) := by unfold z0o; simp only [List.getElem?_cons_succ, ziz]
@[go_sem] theorem cellsEi_for' (d : EIt) : (z0o d)[19]? = some (.str d.it.for_) := by unfold z0o; simp only [List.getElem?_cons_succ, zn4]
@[go_sem] theorem cellsEi_sk' (d : EIt) : (z0o d)[20]? = some (.int .i64 d.it.sk) := by unfold z0o; simp only [List.getElem?_cons_succ, zrb]
@[go_sem] theorem cellsEi_sd' (d : EIt) : (z0o d)[21]? = some (.int .i64 d.it.sd) := by unfold z0o; simp only [List.getElem?_cons_succ, zrc]
@[go_sem] theorem cellsEi_se' (d : EIt) : (z0o d)[22]? = some (.str d.it.se) := by unfold z0o; simp only [List.getElem?_cons_succ, zrd]
@[go_sem] theorem cellsEi_act' (d : EIt) : (z0o d)[23]? = some (.int .i64 d.it.act) := by unfold z0o; simp only [List.getElem?_cons_succ, zn5]
@[go_sem] theorem zyp (d : EIt) : (z0o d)[24]? = some (.int .i64 d.it.item) := by unfold z0o; simp only [List.getElem?_cons_succ, zkv]
@[go_sem] theorem cellsEi_day' (d : EIt) : (z0o d)[25]? = some (.int .i64 d.it.day) := by unfold z0o; simp only [List.getElem?_cons_succ, zn6]
@[go_sem] theorem zwk (d : EIt) : (z0o d)[26]? = some (.str d.it.event) := by unfold z0o; simp only [List.getElem?_cons_succ, zj0]
@[go_sem] theorem cellsEi_by' (d : EIt) : (z0o d)[27]? = some (zhb d.it.by_) := by unfold z0o; simp only [List.getElem?_cons_succ, zre]
@[go_sem] theorem cellsEi_unit (d : EIt) : List.take 8 (List.drop 8 (z0o d)) = z04 d.it.unit := by
 show List.take 8 (List.drop 5 (z1c d.it)) = _
 rw [zkw]
end Abs
end
section
open Abs Facts Tr
namespace Tr
end Tr
end
section
open Abs Facts Tr
attribute [local irreducible] awp
namespace Tr
theorem z3s {α : Type} {f : α -> Bool} {l : List α} {i : Nat} (hi : i < l.length) (h : (l.take i).any f = false) (hf : f l[i] = false) : (l.take (i + 1)).any f = false := by
 rw [List.take_succ_eq_append_getElem hi, List.any_append, h]; simp [hf]
end Tr

namespace Tr
def takeE (u : T) (id : Idv) : Int := if zu5 u = false then 1 else if (findR id u).2 = false then 4 else if u.id = id then 9 else 0
end Tr
namespace Abs
end Abs
end
section
open Abs Facts Tr
namespace Tr
theorem ztt {C : Ctx} {q : T} {id : Idv} (hq : q.id = id) (h : id ∉ zgg C) : (zbw id (z7t C q)).length = lenC C := by
 rw [zol (hq ▸ z3u q) C h, zu9 hq, List.nil_append, zkt]
end Tr
end
section
open Abs Facts Tr
attribute [local irreducible] awp
namespace Tr
end Tr
namespace Tr
end Tr
namespace Tr
end Tr
namespace Tr
end Tr
namespace Tr
end Tr
namespace Tr
end Tr
namespace Tr
theorem take_zero {u x : T} {id : Idv} (h1 : zu5 u = true) (h2 : findR id u = (x, true)) (h3 : ¬ u.id = id) : takeE u id = 0 := by
 unfold takeE; rw [if_neg (by rw [h1]; simp), if_neg (by rw [h2]; simp), if_neg h3]
end Tr
end
section
open Abs Facts Tr
namespace Tr
theorem zvo : ∀ u x : T, x ∈ nodesT u -> ∀ y ∈ nodesT x, y ∈ nodesT u := by
 refine fun u => z53 (p := fun u => ∀ x : T, x ∈ nodesT u -> ∀ y ∈ nodesT x, y ∈ nodesT u) (fun u ih x hx y hy => ?_) u
 rw [z15, List.mem_cons] at hx
 rcases hx with rfl | hx
 ·exact hy
 ·obtain ⟨k, O, hxk⟩ := List.mem_flatMap.1 hx
  exact z0j O (ih k O x hxk y hy)
theorem zvp (C : Ctx) {x y : T} (h : y ∈ nodesT x) : y ∈ nodesT (z7t C x) := by
 induction C with
 | hole => exact h
 | node t l c r ih => exact z0j (t := z7t (.node t l c r) x) (k := z7t c x) (by show _ ∈ l ++ _ :: r; simp) ih
end Tr
namespace Tr
def bookS (s : Stp) : Bool := decide (s.kind = 0) && decide (s.label = z76)
def zpl (s : Stp) : Bool := decide (1 <= s.kind /\ s.kind <= 7) && z87 s.label
def okS (i : Nat) (s : Stp) : Bool := (decide (i = 0) && bookS s) || zpl s
def atB (s : Stp) (u : T) : Bool := decide (u.kind = s.kind) && decide (u.label = s.label)
def nextT (now : List T) (s : Stp) : List T := now.flatMap fun x => x.kids.filter (atB s)
theorem zws {now : List T} {s : Stp} {u : T} (h : ∀ x ∈ now, x ∈ nodesT u) : ∀ x ∈ nextT now s, x ∈ nodesT u := fun x hx => by
 unfold nextT at hx
 obtain ⟨y, hy, hx⟩ := List.mem_flatMap.1 hx
 have O := (List.mem_filter.1 hx).1
 exact zvo u y (h y hy) x (z0j O (z07 x))
theorem zdo {u : T} : ∀ (r : List Stp) (now : List T), (∀ x ∈ now, x ∈ nodesT u) -> ∀ x ∈ r.foldl nextT now, x ∈ nodesT u
 | [], _, h => h
 | _ :: r, _, h => zdo r _ (zws h)
end Tr
namespace Tr
end Tr
namespace Tr
def z2w (id : Idv) (t : T) : T × Int × Int := zg6 (fun t l => if z3j (fun k => decide (k.id = id)) t.kids < t.kids.length then (t, 0, (z3j (fun k => decide (k.id = id)) t.kids : Int)) else match l.find? (fun r => decide (0 <= r.2.2)) with
 | some r => (r.1, r.2.1 + 1, r.2.2)
 | none => (T.zero, 0, -1)) t
theorem z7q (id : Idv) (t : T) : z2w id t = if z3j (fun k => decide (k.id = id)) t.kids < t.kids.length then (t, 0, (z3j (fun k => decide (k.id = id)) t.kids : Int)) else match (t.kids.map (z2w id)).find? (fun r => decide (0 <= r.2.2)) with
  | some r => (r.1, r.2.1 + 1, r.2.2)
  | none => (T.zero, 0, -1) := by unfold z2w; rw [z3m]
theorem zas {α : Type} {f : α -> Bool} {l : List α} (h : ∀ x ∈ l, f x = false) : z3j f l = l.length := z3d (Nat.le_refl _) (fun j hj => h _ (List.getElem_mem _)) (fun h => absurd h (Nat.lt_irrefl _))
theorem zu0 {α : Type} {f : α -> Bool} {l r : List α} {x : α} (h : ∀ y ∈ l, f y = false) (hx : f x = true) : z3j f (l ++ x :: r) = l.length :=
 z3d (by simp) (fun j hj => by rw [List.getElem_append_left hj]; exact h _ (List.getElem_mem _)) (fun hl => by simpa using hx)
theorem zc2 {l : List T} {id : Idv} (h : id ∉ l.flatMap idsT) : ∀ k ∈ l, id ∉ idsT k := fun k O hm => h (List.mem_flatMap.2 ⟨k, O, hm⟩)
theorem zob {k : T} {id : Idv} (h : id ∉ idsT k) : ¬ k.id = id := fun e => h (e ▸ z3u k)
theorem zke {id : Idv} : ∀ t : T, id ∉ t.kids.flatMap idsT -> z2w id t = (T.zero, 0, -1) := by
 refine z53 fun t ih h => ?_
 rw [z7q, zas (fun k O => decide_eq_false (zob (zc2 h k O))), if_neg (Nat.lt_irrefl _)]
 have : (t.kids.map (z2w id)).find? (fun r => decide (0 <= r.2.2)) = none := by
  rw [List.find?_eq_none]
  intro r hr
  obtain ⟨k, O, rfl⟩ := List.mem_map.1 hr
  have hk2 := zc2 h k O
  rw [ih k O (fun hm => hk2 (by rw [z2f]; exact List.mem_cons_of_mem _ hm))]
  decide
 rw [this]
theorem zh1 {id : Idv} {q x : T} {l r : List T} (hx : x.id = id) (hq : ¬ q.id = id) (hl : id ∉ l.flatMap idsT) : ∀ C, id ∉ zgg C -> id ∉ ziu C -> z2w id (z7t C (q.setKids (l ++ x :: r))) = (q.setKids (l ++ x :: r), (lenC C : Int), (l.length : Int))
 | .hole, _, _ => by
  have hf : z3j (fun k => decide (k.id = id)) (l ++ x :: r) = l.length := zu0 (fun k O => decide_eq_false (zob (zc2 hl k O))) (decide_eq_true hx)
  rw [z7t, z7q]
  show (if z3j _ (l ++ x :: r) < (l ++ x :: r).length then _ else _) = _
  rw [hf, if_pos (by simp)]
  show (_, _, ((z3j _ (l ++ x :: r) : Nat) : Int)) = _
  rw [hf]; rfl
 | .node t l' c r', h1, h2 => by
  obtain ⟨n1, n2, n3⟩ := z6j h1
  obtain ⟨m1, m2⟩ := zuk h2
  have ih := zh1 (r := r) hx hq hl c n3 m1
  have hroot : ¬ (z7t c (q.setKids (l ++ x :: r))).id = id := by
   cases c with
   | hole => exact hq
   | node t2 l2 c2 r2 => exact (z6j n3).1
  rw [z7t, z7q]
  have hno : ∀ k ∈ l' ++ z7t c (q.setKids (l ++ x :: r)) :: r', decide (k.id = id) = false := fun k O => by
   rw [List.mem_append, List.mem_cons] at O
   rcases O with O | rfl | O
   ·exact decide_eq_false (zob (zc2 n2 k O))
   ·exact decide_eq_false hroot
   ·exact decide_eq_false (zob (zc2 m2 k O))
  show (if z3j _ (l' ++ z7t c (q.setKids (l ++ x :: r)) :: r') < (l' ++ z7t c (q.setKids (l ++ x :: r)) :: r').length then _ else match ((l' ++ z7t c (q.setKids (l ++ x :: r)) :: r').map (z2w id)).find? _ with | some r => _ | none => _) = _
  rw [zas hno, if_neg (Nat.lt_irrefl _), List.map_append, List.map_cons, List.find?_append]
  have hz : (l'.map (z2w id)).find? (fun r => decide (0 <= r.2.2)) = none := by
   rw [List.find?_eq_none]
   intro r hr
   obtain ⟨k, O, rfl⟩ := List.mem_map.1 hr
   have hk2 := zc2 n2 k O
   rw [zke k (fun hm => hk2 (by rw [z2f]; exact List.mem_cons_of_mem _ hm))]
   decide
  rw [hz, Option.none_or, List.find?_cons, ih]
  simp only [Int.natCast_nonneg, decide_true]
  show (_, ((lenC c : Nat) : Int) + 1, _) = (_, ((lenC c + 1 : Nat) : Int), _)
  rw [Int.natCast_add]; rfl
theorem zig {id : Idv} {u : T} (hn : (idsT u).Nodup) (h0 : ¬ u.id = id) (hm : id ∈ idsT u) : z2w id u = ((findR (z6w id u).1 u).1, ((zbw (z6w id u).1 u).length : Int), (z6w id u).2.1) := by
 obtain ⟨C, q, l, x, r, e, hx, hq, n1, n2, hf, hp⟩ := focus2 h0 hm
 rw [hp]
 have hxm : id ∈ idsT (q.setKids (l ++ x :: r)) := by rw [zed]; exact List.mem_cons_of_mem _ (zuj.2 (.inr (.inl (hx ▸ z3u x))))
 subst e
 obtain ⟨k1, k2⟩ := zbt hn hxm
 have hqs : q.id ∈ idsT (q.setKids (l ++ x :: r)) := by rw [zed]; exact List.mem_cons_self
 obtain ⟨m1, m2⟩ := zbt hn hqs
 have e1 : findR q.id (q.setKids (l ++ x :: r)) = (q.setKids (l ++ x :: r), true) := z5n rfl
 have e2 : (zbw q.id (z7t C (q.setKids (l ++ x :: r)))).length = lenC C := ztt rfl m1
 rw [zh1 hx hq n2 C k1 k2, zfa hqs C m1, e1]
 show _ = (_, ((zbw q.id (z7t C (q.setKids (l ++ x :: r)))).length : Int), _)
 rw [e2]
end Tr
namespace Tr
theorem above {u : T} {id : Idv} (hn : (idsT u).Nodup) (h0 : ¬ u.id = id) (hm : id ∈ idsT u) : ∃ (q : T) (l : List T) (x : T) (r : List T), z6w id u = (q.id, (l.length : Int), true) /\ findR id u = (x, true) /\ x.id = id /\
  findR q.id u = (q.setKids (l ++ x :: r), true) /\ q.setKids (l ++ x :: r) ∈ nodesT u /\ id ∉ l.flatMap idsT /\ id ∉ r.flatMap idsT /\ q.id ∈ idsT u /\ (∀ i ∈ idsT x, i ≠ q.id /\ i ∉ l.flatMap idsT /\ i ∉ r.flatMap idsT) := by
 obtain ⟨C, q, l, x, r, e, hx, hq, n1, n2, hf, hp⟩ := focus2 h0 hm
 refine ⟨q, l, x, r, hp, hf, hx, ?_⟩
 subst e
 have hqs : q.id ∈ idsT (q.setKids (l ++ x :: r)) := by rw [zed]; exact List.mem_cons_self
 obtain ⟨m1, m2⟩ := zbt hn hqs
 have ns := (zse (zgm hn)).1
 refine ⟨by rw [zfa hqs C m1]; exact z5n rfl, zvp C (z07 _), n2, (ns id (hx ▸ z3u x)).2.2, ze4 C hqs, ns⟩
end Tr
namespace Tr
end Tr
end
section
open Abs Facts Tr
attribute [local irreducible] awp
set_option maxRecDepth 100000
namespace Tr
end Tr
theorem ztb : ∀ t : T, szB t = true -> cntT t <= 1000000000 -> PC prog 24 [z1o t] (z0l (nodesT t)) := by
 refine z53 fun t ih hs hc => ?_
 obtain ⟨h0, h1, g1, h2, g2, h3, h4⟩ := (z3o t).1 hs
 have hce := za2 t
 refine z3q 2 (by simp only [pureD.pureL, z0h, Bool.and_self]) (z5q _) (z30 [6] func24 rfl (by decide +kernel) rfl ?_)
 show awp _ _ (Code.seq _ _) _ _
 repeat' (first | refine nxt ?_ | ((refine zqh fun K hK => ?_); (simp (disch := omega) only [go_sem, Nat.reduceBEq, ↓reduceIte, reduceCtorEq, Nat.reduceAdd, Nat.reduceMul, Nat.reduceLeDiff])) | (refine hK _ ?_; clear hK K))
 (refine z6x (fun U st => ∃ (i : _), U = t.kids.length - i /\ st.t 1 = .ptr 0 0 /\ st.t 3 = .osl 1 (1 + ((t.kids.take i).flatMap nodesT).length) /\ st.t 4 = .int .i64 i /\ st.H 0 = some (.box 27 (z04 t)) /\ st.H 1 = some (.row 27 (1 + ((t.kids.take i).flatMap nodesT).length) ((t :: (t.kids.take i).flatMap nodesT).flatMap z04)) /\ (i <= t.kids.length) /\ (2 <= st.nx)) ?_ ?_); rotate_left; (rintro U st ⟨i, rfl, q1, q3, q4, qH0, qH1, qp0, qp1⟩); rotate_left
 ·(refine ⟨_, 0, rfl, ?_⟩); (simp (disch := omega) only [go_sem, Nat.reduceBEq, Nat.reduceLeDiff, true_and, and_true, and_self, Int.natCast_zero, List.flatMap_nil, List.append_nil])
  try simp
 have hin := fun (h : i < t.kids.length) => ih t.kids[i] (List.getElem_mem h) (h4 _ (List.getElem_mem h)) (by have := zn7 (List.getElem_mem h); omega)
 have hb := z7u t.kids (i + 1)
 by_cases hi : i < t.kids.length
 ·have hsu := z7v t.kids i hi
  have hil : (nodesT t.kids[i]).length = cntT t.kids[i] := rfl
  have htk : (t.kids.take (i + 1)).flatMap nodesT = (t.kids.take i).flatMap nodesT ++ nodesT t.kids[i] := by
   rw [List.take_succ_eq_append_getElem hi, List.flatMap_append]; simp
  repeat' (first | refine nxt ?_ | ((first | refine zqh fun K hK => ?_ | refine zqr fun K hK => ?_ | refine zqs (hin hi) ?_); (simp (disch := omega) only [go_sem, Nat.reduceBEq, ↓reduceIte, reduceCtorEq, Nat.reduceAdd, q1, q3, q4, qH0, qH1, z0l, zb1])) | (refine zqd _ rfl ?_ ?_ <;> intro hc <;> (((try simp only [z06] at hc); (try omega)))) | (refine hK _ ?_; clear hK K))
  (refine Exists.intro _ (And.intro ?_ ⟨i + 1, rfl, ?_⟩)); rotate_left; (simp (disch := omega) only [go_sem, Nat.reduceBEq, q1, q3, q4, qH0, qH1, true_and, Int.natCast_add, Int.natCast_one, List.flatMap_append, List.flatMap_cons, htk, hil, Nat.add_assoc, List.append_assoc]); rotate_left
  ·omega
  ·omega
 ·repeat' (first | refine nxt ?_ | ((refine zqh fun K hK => ?_); (simp (disch := omega) only [go_sem, Nat.reduceBEq, ↓reduceIte, reduceCtorEq, Nat.reduceAdd, q1, q3, q4, qH0, z0l])) | (refine zqd _ rfl ?_ ?_ <;> intro hc <;> (((try simp only [z06] at hc); (try omega)))) | refine zqz ?_ | refine zqu (by simp only [go_sem]; rfl) rfl ?_ | (refine hK _ ?_; clear hK K))
  have hi2 : i = t.kids.length := by omega
  subst hi2
  rw [List.take_length] at qH1
  rw [List.take_length]
  rw [<- z15] at qH1
  refine z8i (ziw (f := z04) (l := nodesT t) 0 ?_ ?_ zjf zvs z5i z1z)
  ·rw [z15, List.length_cons]; omega
  ·(simp (disch := omega) only [go_sem, qH1])
namespace Tr
def zah (id : Idv) (t : T) : Int := ((z1q id t).length : Int) - 1
theorem zsn {id : Idv} {t : T} (h : t.id = id) : zah id t = 0 := by unfold zah; rw [z2l h]; rfl
theorem zso {id : Idv} {t : T} (h : z1q id t = []) : zah id t = -1 := by unfold zah; rw [h]; rfl
theorem zwz {id : Idv} {t k : T} (h : z1q id t = t :: z1q id k) : zah id t = zah id k + 1 := by
 unfold zah; rw [h, List.length_cons, Int.natCast_add]; omega
theorem zmc {id : Idv} {t : T} : 0 <= zah id t ↔ z1q id t ≠ [] := by
 unfold zah
 cases z1q id t with
 | nil => simp
 | cons a l => simp only [List.length_cons, Int.natCast_add, ne_eq, reduceCtorEq, not_false_eq_true, iff_true]; omega
theorem zps {id : Idv} {t : T} {i : Nat} (hi : i < t.kids.length) (h1 : ∀ j, (hj : j < i) -> (h : j < t.kids.length) -> ¬ t.kids[j].id = id) (h2 : t.kids[i].id = id) : z2w id t = (t, 0, (i : Int)) := by
 have hf : z3j (fun k => decide (k.id = id)) t.kids = i := z3d (by omega) (fun j hj => decide_eq_false (h1 j hj (by omega))) (fun _ => decide_eq_true h2)
 rw [z7q, hf, if_pos hi]
theorem zx0 {id : Idv} {t : T} {i : Nat} (hno : ∀ j, (h : j < t.kids.length) -> ¬ t.kids[j].id = id) (hi : i < t.kids.length) (h1 : ∀ j, (hj : j < i) -> (h : j < t.kids.length) -> ¬ 0 <= (z2w id t.kids[j]).2.2) (h2 : 0 <= (z2w id t.kids[i]).2.2) : z2w id t = ((z2w id t.kids[i]).1, (z2w id t.kids[i]).2.1 + 1, (z2w id t.kids[i]).2.2) := by
 have hf : z3j (fun k => decide (k.id = id)) t.kids = t.kids.length := zas fun k O => by
  obtain ⟨j, hj, rfl⟩ := List.getElem_of_mem O
  exact decide_eq_false (hno j hj)
 have hs : (t.kids.map (z2w id)).find? (fun r => decide (0 <= r.2.2)) = some (z2w id t.kids[i]) := by
  rw [List.find?_eq_some_iff_getElem]
  refine ⟨decide_eq_true h2, i, by rw [List.length_map]; exact hi, by rw [List.getElem_map], fun j hj => ?_⟩
  rw [List.getElem_map]
  simp only [Bool.not_eq_true', decide_eq_false_iff_not]
  exact h1 j hj (by omega)
 rw [z7q, hf, if_neg (Nat.lt_irrefl _), hs]
theorem zx1 {id : Idv} {t : T} (hno : ∀ j, (h : j < t.kids.length) -> ¬ t.kids[j].id = id) (h1 : ∀ j, (h : j < t.kids.length) -> ¬ 0 <= (z2w id t.kids[j]).2.2) : z2w id t = (T.zero, 0, -1) := by
 have hf : z3j (fun k => decide (k.id = id)) t.kids = t.kids.length := zas fun k O => by
  obtain ⟨j, hj, rfl⟩ := List.getElem_of_mem O
  exact decide_eq_false (hno j hj)
 have hs : (t.kids.map (z2w id)).find? (fun r => decide (0 <= r.2.2)) = none := by
  rw [List.find?_eq_none]
  intro r hr
  obtain ⟨k, O, rfl⟩ := List.mem_map.1 hr
  obtain ⟨j, hj, rfl⟩ := List.getElem_of_mem O
  simp only [decide_eq_true_eq]
  exact h1 j hj
 rw [z7q, hf, if_neg (Nat.lt_irrefl _), hs]
theorem zx2 (id : Idv) : ∀ t : T, 0 <= (z2w id t).2.1 /\ (z2w id t).2.1 <= depT t := by
 refine z53 fun t ih => ?_
 rw [z7q]
 split
 ·exact ⟨Int.le_refl _, Int.natCast_nonneg _⟩
 ·split
  ·rename_i r hr
   obtain ⟨k, O, rfl⟩ := List.mem_map.1 (List.mem_of_find?_eq_some hr)
   have h1 := ih k O
   have h2 := z93 O
   simp only; omega
  ·exact ⟨Int.le_refl _, Int.natCast_nonneg _⟩
end Tr
theorem zx3 (id : Idv) : ∀ t : T, szB t = true -> depT t <= 1000000000 -> PC prog 38 [z1o t, z3a id] (.tup [z1o (findR id t).1, .int .i64 (zah id t)]) := by
 refine z53 fun t ih hs V => ?_
 obtain ⟨h0, h1, g1, h2, g2, h3, h4⟩ := (z3o t).1 hs
 refine z3q 3 (by simp only [pureD.pureL, z0h]; rfl) (by simp only [pureD, pureD.pureL, z0h, Bool.and_self]) (z30 [3000023, 3000025, 3000026, 3000027, 5000028] func38 rfl (by decide +kernel) rfl ?_)
 show awp _ _ (Code.seq _ _) _ _
 rw [show Tryd.f38.results.toList = [.cell 4 27, .tmp 5] from rfl]
 repeat' (first | refine nxt ?_ | ((refine zqh fun K hK => ?_); (simp (disch := omega) only [go_sem, Nat.reduceBEq, ↓reduceIte, reduceCtorEq, Nat.reduceAdd, Nat.reduceLeDiff])) | (refine zqd _ rfl ?_ ?_ <;> intro hc <;> (((try simp only [z06] at hc); (try omega)))) | refine zqu (by (simp (disch := omega) only [go_sem, Nat.reduceBEq, ↓reduceIte, Nat.reduceLeDiff]); rfl) rfl ?_ | (refine hK _ ?_; clear hK K))
 ·rw [z5n (by assumption), zsn (by assumption)]
  exact z1e (by simp only [pureD, pureD.pureL, z1z, Bool.and_self]) (Le.refl _)
 ·have hne : ¬ t.id = id := by assumption
  (refine z6x (fun U st => ∃ (i : _), U = t.kids.length - i /\ st.t 2 = .ptr 0 0 /\ st.t 3 = .ptr 1 0 /\ st.t 4 = .ptr 2 0 /\ st.t 6 = .int .i64 i /\ st.H 0 = some (.box 27 (z04 t)) /\ st.H 1 = some (.box 23 (cellsId id)) /\ st.H 2 = some (.box 27 [.int .i64 0, .int .i64 0, .int .i64 0, .int .i64 0, .str ByteArray.empty, .nil, .nil, .nil]) /\ (i <= t.kids.length) /\ (3 <= st.nx) /\ (∀ j, (hj : j < i) -> (h : j < t.kids.length) -> z1q id t.kids[j] = [])) ?_ ?_); rotate_left; (rintro U st ⟨i, rfl, q2, q3, q4, q6, qH0, qH1, qH2, qp0, qp1, qp2⟩); rotate_left
  ·(refine ⟨_, 0, rfl, ?_⟩); (simp (disch := omega) only [go_sem, Nat.reduceBEq, Nat.reduceLeDiff, true_and, Int.natCast_zero, cellsId])
   (repeat' (omega))
  by_cases hi : i < t.kids.length
  ·have hdk := z93 (List.getElem_mem hi)
   have hin := ih t.kids[i] (List.getElem_mem hi) (h4 _ (List.getElem_mem hi)) (by omega)
   have hlen := zy6 id t.kids[i]
   have hdi : zah id t.kids[i] <= 1000000000 := by unfold zah; omega
   repeat' (first | refine nxt ?_ | ((first | refine zqh fun K hK => ?_ | refine zqe (by decide +kernel) fun K hK => ?_ | refine zqr fun K hK => ?_ | refine zqt (hin) ?_); (simp (disch := omega) only [go_sem, Nat.reduceBEq, Nat.reduceEqDiff, ↓reduceIte, reduceCtorEq, Nat.reduceAdd, Nat.reduceLeDiff, q2, q3, q4, q6, qH0, qH1, qH2, z0l, cellsId])) | ((first | refine zqd _ rfl (fun hc => ?_) (fun hc => ?_) | refine zqm _ rfl (fun hc => ?_) (fun hc => ?_)) <;> (((try simp only [z06] at hc); (try omega)))) | refine zqu (by (simp (disch := omega) only [go_sem, Nat.reduceBEq, ↓reduceIte, Nat.reduceLeDiff, q4, qH2]); rfl) rfl ?_ | (refine hK _ ?_; clear hK K))
   ·have hf := zmc.1 ‹0 <= zah id t.kids[i]›
    rw [z74 (z4u hne hi qp2 hf) hf, zwz (z4u hne hi qp2 hf)]
    refine z1e (by simp only [pureD, pureD.pureL, z1z, Bool.and_self]) ?_
    exact Le.refl _
   ·have hf : z1q id t.kids[i] = [] := Classical.byContradiction fun g => by have := zmc.2 g; omega
    (refine Exists.intro _ (And.intro ?_ ⟨i + 1, rfl, ?_⟩)); rotate_left; (simp (disch := omega) only [go_sem, Nat.reduceBEq, Nat.reduceLeDiff, q2, q3, q4, q6, qH0, qH1, qH2, true_and, Int.natCast_add, Int.natCast_one, cellsId]); rotate_left
    ·omega
    ·refine ⟨by omega, by omega, fun j hj h => ?_⟩
     by_cases e : j = i
     ·subst e; exact hf
     ·exact qp2 j (by omega) h
  ·repeat' (first | refine nxt ?_ | ((refine zqh fun K hK => ?_); (simp (disch := omega) only [go_sem, Nat.reduceBEq, ↓reduceIte, reduceCtorEq, Nat.reduceAdd, Nat.reduceLeDiff, q2, q4, q6, qH0, qH2, z0l])) | (refine zqd _ rfl ?_ ?_ <;> intro hc <;> (((try simp only [z06] at hc); (try omega)))) | refine zqz ?_ | refine zqu (by (simp (disch := omega) only [go_sem, Nat.reduceBEq, ↓reduceIte, Nat.reduceAdd, Nat.reduceLeDiff, q4, qH2]); rfl) rfl ?_ | (refine hK _ ?_; clear hK K))
   rw [zb3 (zb2 hne (by omega) qp2), zso (zb2 hne (by omega) qp2)]
   exact z1e (by simp only [pureD, pureD.pureL, Bool.and_self]) (Le.tup ⟨zi6, Le.refl _, trivial⟩)
theorem z9v (id : Idv) : ∀ t : T, szB t = true -> depT t <= 1000000000 -> PC prog 26 [z1o t, z3a id] (.tup [z1o (z2w id t).1, .int .i64 (z2w id t).2.1, .int .i64 (z2w id t).2.2]) := by
 refine z53 fun t ih hs V => ?_
 obtain ⟨h0, h1, g1, h2, g2, h3, h4⟩ := (z3o t).1 hs
 refine z3q 3 (by simp only [pureD.pureL, z0h]; rfl) (by simp only [pureD, pureD.pureL, z0h, Bool.and_self]) (z30 [3000038, 3000040, 3000041, 3000042, 5000043] func26 rfl (by decide +kernel) rfl ?_)
 show awp _ _ (Code.seq _ _) _ _
 rw [show Tryd.f26.results.toList = [.cell 4 27, .tmp 5, .tmp 6] from rfl]
 repeat' (first | refine nxt ?_ | ((refine zqh fun K hK => ?_); (simp (disch := omega) only [go_sem, Nat.reduceBEq, Nat.reduceAdd])) | (refine hK _ ?_; clear hK K))
 (refine z6x (fun U st => ∃ (i : _), U = t.kids.length - i /\ st.t 2 = .ptr 0 0 /\ st.t 3 = .ptr 1 0 /\ st.t 4 = .ptr 2 0 /\ st.t 7 = .int .i64 i /\ st.H 0 = some (.box 27 (z04 t)) /\ st.H 1 = some (.box 23 (cellsId id)) /\ st.H 2 = some (.box 27 [.int .i64 0, .int .i64 0, .int .i64 0, .int .i64 0, .str ByteArray.empty, .nil, .nil, .nil]) /\ (i <= t.kids.length) /\ (3 <= st.nx) /\ (∀ j, (hj : j < i) -> (h : j < t.kids.length) -> ¬ t.kids[j].id = id)) ?_ ?_); rotate_left; (rintro U st ⟨i, rfl, q2, q3, q4, q7, qH0, qH1, qH2, qp0, qp1, qp2⟩); rotate_left
 ·(refine ⟨_, 0, rfl, ?_⟩); (simp (disch := omega) only [go_sem, Nat.reduceBEq, Nat.reduceLeDiff, true_and, Int.natCast_zero, cellsId])
  (repeat' (omega))
  all_goals intro j hj; omega
 by_cases hi : i < t.kids.length
 ·repeat' (first | refine nxt ?_ | ((first | refine zqh fun K hK => ?_ | refine zqe (by decide +kernel) fun K hK => ?_ | refine zqr fun K hK => ?_); (simp (disch := omega) only [go_sem, Nat.reduceBEq, Nat.reduceEqDiff, ↓reduceIte, reduceCtorEq, Nat.reduceAdd, Nat.reduceLeDiff, q2, q3, q4, q7, qH0, qH1, qH2, z0l, cellsId])) | ((first | refine zqd _ rfl (fun hc => ?_) (fun hc => ?_) | refine zqm _ rfl (fun hc => ?_) (fun hc => ?_)) <;> (((try simp only [z06] at hc); (try omega)))) | refine zqu (by (simp (disch := omega) only [go_sem, Nat.reduceBEq, ↓reduceIte, Nat.reduceLeDiff, q4, qH2]); rfl) rfl ?_ | (refine hK _ ?_; clear hK K))
  ·rw [zps hi qp2 (by assumption)]
   exact z1e (by simp only [pureD, pureD.pureL, z1z, Bool.and_self]) (Le.refl _)
  ·(refine Exists.intro _ (And.intro ?_ ⟨i + 1, rfl, ?_⟩)); rotate_left; (simp (disch := omega) only [go_sem, Nat.reduceBEq, q2, q3, q4, q7, qH0, qH1, qH2, true_and, Int.natCast_add, Int.natCast_one, cellsId]); rotate_left
   ·omega
   ·refine ⟨by omega, by omega, fun j hj h => ?_⟩
    by_cases e : j = i
    ·subst e; assumption
    ·exact qp2 j (by omega) h
 ·repeat' (first | refine nxt ?_ | ((refine zqh fun K hK => ?_); (simp (disch := omega) only [go_sem, Nat.reduceBEq, ↓reduceIte, reduceCtorEq, Nat.reduceAdd, q2, q7, qH0, z0l])) | (refine zqd _ rfl ?_ ?_ <;> intro hc <;> (((try simp only [z06] at hc); (try omega)))) | refine zqz ?_ | (refine hK _ ?_; clear hK K))
  have hno : ∀ j, (h : j < t.kids.length) -> ¬ t.kids[j].id = id := fun j h => qp2 j (by omega) h
  (refine z6x (fun U st => ∃ (k : _), U = t.kids.length - k /\ st.t 2 = .ptr 0 0 /\ st.t 3 = .ptr 1 0 /\ st.t 4 = .ptr 2 0 /\ st.t 8 = .int .i64 k /\ st.H 0 = some (.box 27 (z04 t)) /\ st.H 1 = some (.box 23 (cellsId id)) /\ st.H 2 = some (.box 27 [.int .i64 0, .int .i64 0, .int .i64 0, .int .i64 0, .str ByteArray.empty, .nil, .nil, .nil]) /\ (k <= t.kids.length) /\ (3 <= st.nx) /\ (∀ j, (hj : j < k) -> (h : j < t.kids.length) -> ¬ 0 <= (z2w id t.kids[j]).2.2)) ?_ ?_); rotate_left; (rintro U st ⟨k, rfl, r2, r3, r4, r8, rH0, rH1, rH2, rp0, rp1, rp2⟩); rotate_left
  ·(refine ⟨_, 0, rfl, ?_⟩); (simp (disch := omega) only [go_sem, Nat.reduceBEq, q2, q3, q4, qH0, qH1, qH2, true_and, Int.natCast_zero, cellsId])
   (repeat' (first | omega | refine And.intro ?_ ?_))
   all_goals first | omega | (intro j hj; omega)
  by_cases O : k < t.kids.length
  ·have hdk := z93 (List.getElem_mem O)
   have hin := ih t.kids[k] (List.getElem_mem O) (h4 _ (List.getElem_mem O)) (by omega)
   have hle := zx2 id t.kids[k]
   repeat' (first | refine nxt ?_ | ((first | refine zqh fun K hK => ?_ | refine zqe (by decide +kernel) fun K hK => ?_ | refine zqr fun K hK => ?_ | refine zqt (hin) ?_); (simp (disch := omega) only [go_sem, Nat.reduceBEq, Nat.reduceEqDiff, ↓reduceIte, reduceCtorEq, Nat.reduceAdd, Nat.reduceLeDiff, r2, r3, r4, r8, rH0, rH1, rH2, z0l, cellsId])) | ((first | refine zqd _ rfl (fun hc => ?_) (fun hc => ?_) | refine zqm _ rfl (fun hc => ?_) (fun hc => ?_)) <;> (((try simp only [z06] at hc); (try omega)))) | refine zqu (by (simp (disch := omega) only [go_sem, Nat.reduceBEq, ↓reduceIte, Nat.reduceLeDiff, r4, rH2]); rfl) rfl ?_ | (refine hK _ ?_; clear hK K))
   ·rw [zx0 hno O rp2 (by assumption)]
    refine z1e (by simp only [pureD, pureD.pureL, z1z, Bool.and_self]) ?_
    exact Le.refl _
   ·(refine Exists.intro _ (And.intro ?_ ⟨k + 1, rfl, ?_⟩)); rotate_left; (simp (disch := omega) only [go_sem, Nat.reduceBEq, Nat.reduceLeDiff, r2, r3, r4, r8, rH0, rH1, rH2, true_and, Int.natCast_add, Int.natCast_one, cellsId]); rotate_left
    ·omega
    ·refine ⟨by omega, by omega, fun j hj h => ?_⟩
     by_cases e : j = k
     ·subst e; omega
     ·exact rp2 j (by omega) h
  ·repeat' (first | refine nxt ?_ | ((refine zqh fun K hK => ?_); (simp (disch := omega) only [go_sem, Nat.reduceBEq, ↓reduceIte, reduceCtorEq, Nat.reduceAdd, Nat.reduceLeDiff, r2, r4, r8, rH0, rH2, z0l])) | (refine zqd _ rfl ?_ ?_ <;> intro hc <;> (((try simp only [z06] at hc); (try omega)))) | refine zqz ?_ | refine zqu (by (simp (disch := omega) only [go_sem, Nat.reduceBEq, ↓reduceIte, Nat.reduceAdd, Nat.reduceLeDiff, r4, rH2]); rfl) rfl ?_ | (refine hK _ ?_; clear hK K))
   rw [zx1 hno fun j h => rp2 j (by omega) h]
   exact z1e (by simp only [pureD, pureD.pureL, Bool.and_self]) (Le.tup ⟨zi6, Le.refl _, Le.refl _, trivial⟩)
theorem zzt (i : Idv) (u : T) : decide (0 <= zah i u) = z16 i u := by
 rw [z14, decide_eq_decide, zmc]
 exact z9m
theorem zzu (u : T) (i : Idv) (h : Fit50 u) : PC prog 25 [z1o u, z3a i] (.bool (z16 i u)) := by
 have V := h.dep
 have c1 := zx3 i u h.sz (by omega)
 refine z3q 1 (by simp only [pureD.pureL, z0h]; rfl) rfl (z30 [] func25 rfl (by decide +kernel) rfl ?_)
 show awp _ _ (Code.seq _ _) _ _
 repeat' (first | ((first | refine zqh fun K hK => ?_ | refine zqs (c1) ?_); (simp (disch := omega) only [go_sem, Nat.reduceBEq, ↓reduceIte, Nat.reduceAdd, Nat.reduceLeDiff])) | refine nxt ?_ | refine zqu (by simp only [go_sem]; rfl) rfl ?_ | (refine hK _ ?_; clear hK K))
 exact z05 (zzt i u)
theorem pc_in49 (l : List Idv) (i : Idv) (hl : l.length <= 1000000) : PC prog 27 [z0m l, z3a i] (.bool (decide (i ∈ l))) := by
  refine z3q 1 (by simp only [pureD.pureL, z3w]; rfl) rfl (z30 [] func27 rfl (by decide +kernel) rfl ?_)
  show awp _ _ (Code.seq _ _) _ _
  repeat' (first | refine nxt ?_ | ((refine zqh fun K hK => ?_); (simp (disch := omega) only [go_sem])) | (refine hK _ ?_; clear hK K))
  (refine z6x (fun U st => ∃ (n : Nat), U = l.length - n /\ st.t 0 = z0m l /\ st.t 3 = .ptr 0 0 /\ st.t 5 = .int .i64 n /\ st.H (0) = some (.box 23 (cellsId i)) /\ (n <= l.length) /\ (¬ i ∈ l.take n)) ?_ ?_); rotate_left; (rintro U st ⟨n, rfl, v0, v3, v5, vH0, vp0, vp1⟩); rotate_left
  · (refine ⟨_, 0, rfl, ?_⟩); (simp (disch := omega) only [go_sem, Nat.reduceBEq, true_and, Int.natCast_zero, z0m, cellsId])
    exact fun h => by cases h
  by_cases hi : n < l.length
  · have htk := List.take_succ_eq_append_getElem hi
    by_cases he : l[n] = i
    · repeat' (first | refine nxt ?_ | ((first | refine zqh fun K hK => ?_ | refine zqe (by decide +kernel) fun K hK => ?_); (simp (disch := omega) only [go_sem, Nat.reduceBEq, ↓reduceIte, reduceCtorEq, Nat.reduceAdd, Nat.reduceLeDiff, v0, v3, v5, vH0, z0m, cellsId, he])) | ((first | refine zqd _ rfl (fun hc => ?_) (fun hc => ?_) | refine zqm _ rfl (fun hc => ?_) (fun hc => ?_)) <;> (first | (cases hc; done) | ((try simp only [z06] at hc); (try omega)))) | refine zqu (by simp only [go_sem]; rfl) rfl ?_ | (refine hK _ ?_; clear hK K))
      exact z05 (by have : i ∈ l := he ▸ List.getElem_mem hi
                    simp [this])
    · repeat' (first | refine nxt ?_ | ((first | refine zqh fun K hK => ?_ | refine zqe (by decide +kernel) fun K hK => ?_ | refine zqr fun K hK => ?_); (simp (disch := omega) only [go_sem, Nat.reduceBEq, ↓reduceIte, reduceCtorEq, Nat.reduceAdd, Nat.reduceLeDiff, v0, v3, v5, vH0, z0m, cellsId, he])) | ((first | refine zqd _ rfl (fun hc => ?_) (fun hc => ?_) | refine zqm _ rfl (fun hc => ?_) (fun hc => ?_)) <;> (first | (cases hc; done) | ((try simp only [z06] at hc); (try omega)))) | (refine hK _ ?_; clear hK K))
      (refine Exists.intro _ (And.intro ?_ ⟨n + 1, rfl, ?_⟩)); rotate_left; (simp (disch := omega) only [go_sem, Nat.reduceBEq, v0, v3, v5, vH0, true_and, Int.natCast_add, Int.natCast_one, cellsId]); rotate_left
      · omega
      · exact ⟨by omega, fun h => by rw [htk, List.mem_append, List.mem_singleton] at h; exact h.elim vp1 fun e => he e.symm⟩
  · repeat' (first | refine nxt ?_ | ((refine zqh fun K hK => ?_); (simp (disch := omega) only [go_sem, Nat.reduceBEq, ↓reduceIte, v0, v5, z0m])) | (refine zqd _ rfl ?_ ?_ <;> intro hc <;> (((try simp only [z06] at hc); (try omega)))) | refine zqz ?_ | refine zqu (by simp only [go_sem]; rfl) rfl ?_ | (refine hK _ ?_; clear hK K))
    have hta : l.take n = l := List.take_of_length_le (by omega)
    rw [hta] at vp1
    exact z05 (decide_eq_false vp1).symm
end
section
open Abs Facts
attribute [local irreducible] awp
theorem Lis.sel_stop (l : List Int) (n : Nat) (h : Lis.most l <= (Lis.sel l n).length) : ∀ k, Lis.sel l (n + k) = Lis.sel l n
 | 0 => rfl
 | k + 1 => by
  have ih := Lis.sel_stop l n h k
  rw [<- Nat.add_assoc, Lis.sel_succ, ih]
  unfold Lis.sel1
  rw [if_neg (by omega)]
theorem Lis.sel_le_most (l : List Int) : ∀ n, ((Lis.sel l n).length : Int) <= Lis.most l
 | 0 => by have := Lis.most_bd l; simp [Lis.sel]; omega
 | n + 1 => by
  have ih := Lis.sel_le_most l n
  rw [Lis.sel_succ]; unfold Lis.sel1
  split
  ·simp; omega
  ·exact ih
theorem Lis.foldr_max (l : List Int) : ∀ (m : Int), l.foldl max m = max m (l.foldr max 0) \/ m < 0 := by
 induction l with
 | nil => intro m; simp; omega
 | cons x xs ih =>
  intro m
  simp only [List.foldl_cons, List.foldr_cons]
  rcases ih (max m x) with h | h
  ·rw [h]; omega
  ·omega
theorem Lis.take_most (l : List Int) (i : Nat) (hi : i < l.length) : (l.take (i + 1)).foldl max 0 = max ((l.take i).foldl max 0) (l[i]) := by
 rw [List.take_succ_eq_append_getElem hi, List.foldl_append]; rfl
set_option maxHeartbeats 2000000 in
theorem pc13 (l : List Int) (hl : l.length <= maxLen) : PC prog 49 [z45 l] (z45 ((Lis.lis l).map fun (n : Nat) => (n : Int))) := by
 unfold maxLen at hl
 refine z3q 2 (by simp only [pureD.pureL, z46, Bool.and_self]) (z46 _) (z30 [10] func49 rfl (by decide +kernel) rfl ?_)
 show awp _ _ (Code.seq _ _) _ _
 (refine zqh fun K hK => ?_); (simp only [go_sem, Nat.reduceBEq, Nat.reduceBeqDiff, Nat.reduceEqDiff, ↓reduceIte, reduceCtorEq, Nat.reduceAdd, Nat.reduceMul, Nat.reduceLeDiff, Nat.reduceLT, Int.reduceLT, Int.reduceLE, Int.reduceEq]); (refine hK _ ?_); (clear hK K)
 repeat refine zqj ?_
 (refine zqh fun K hK => ?_); (simp only [go_sem, Nat.reduceBEq, Nat.reduceBeqDiff, Nat.reduceEqDiff, ↓reduceIte, reduceCtorEq, Nat.reduceAdd, Nat.reduceMul, Nat.reduceLeDiff, Nat.reduceLT, Int.reduceLT, Int.reduceLE, Int.reduceEq, z45]); (refine hK _ ?_); (clear hK K)
 repeat refine zqj ?_
 (refine zqh fun K hK => ?_); (simp only [go_sem, Nat.reduceBEq, Nat.reduceBeqDiff, Nat.reduceEqDiff, ↓reduceIte, reduceCtorEq, Nat.reduceAdd, Nat.reduceMul, Nat.reduceLeDiff, Nat.reduceLT, Int.reduceLT, Int.reduceLE, Int.reduceEq, z45]); (refine hK _ ?_); (clear hK K)
 refine z0q fun K hK => ?_
 (refine zqm _ rfl (fun hc => ?_) (fun hc => ?_)) <;> (simp only [z06] at hc)
 ·(refine zqh fun K hK => ?_); (simp only [go_sem, Nat.reduceBEq, Nat.reduceBeqDiff, Nat.reduceEqDiff, ↓reduceIte, reduceCtorEq, Nat.reduceAdd, Nat.reduceMul, Nat.reduceLeDiff, Nat.reduceLT, Int.reduceLT, Int.reduceLE, Int.reduceEq]); (refine hK _ ?_); (clear hK K)
  (refine zqn ?_); (refine Exists.intro _ (And.intro rfl ?_))
  refine zmi 0 rfl z2n z52 (by simp) rfl ?_
  simp only [Lis.lis]; rw [if_pos (by omega)]; rfl
 refine zqk (hK _ ?_); clear hK K
 repeat refine zqj ?_
 have g1 : (0 : Int) <= (l.length : Int) := by omega
 have g2 : l.length * 8 <= 140737488355328 := by omega
 have g3 : (l.length : Int) <= 9223372036854775807 := by omega
 (refine zqh fun K hK => ?_); (simp only [go_sem, Nat.reduceBEq, Nat.reduceBeqDiff, Nat.reduceEqDiff, ↓reduceIte, reduceCtorEq, Nat.reduceAdd, Nat.reduceMul, Nat.reduceLeDiff, Nat.reduceLT, Int.reduceLT, Int.reduceLE, Int.reduceEq, z45, g2, g3]); (refine hK _ ?_); (clear hK K)
 have w1 : IntKind.i64.wrap ((l.length : Int) - 1) = (l.length : Int) - 1 := z28 (by omega)
 refine z0q fun K hK => ?_
 repeat refine zqj ?_
 (refine zqh fun K hK => ?_); (simp only [go_sem, Nat.reduceBEq, Nat.reduceBeqDiff, Nat.reduceEqDiff, ↓reduceIte, reduceCtorEq, Nat.reduceAdd, Nat.reduceMul, Nat.reduceLeDiff, Nat.reduceLT, Int.reduceLT, Int.reduceLE, Int.reduceEq, z45, w1, zdv (D.int .i64) 0 l.length]); (refine hK _ ?_); (clear hK K)
 refine zqi (z3f (fun n st => ∃ cs : List Int, n <= l.length /\ st.t 0 = z45 l /\ st.t 3 = .osl 0 0 /\ st.H 0 = some (.row 3 0 []) /\ st.t 4 = .osl 1 l.length /\ st.H 1 = some (.row 3 l.length (cs.map (D.int .i64))) /\ cs.length = l.length /\
   cs.drop n = Lis.rows (l.drop n) /\ st.t 5 = .int .i64 ((n : Int) - 1) /\ st.nx = 2) l.length ?_ ?_)
 ·exact ⟨List.replicate l.length 0, Nat.le_refl _, rfl, rfl, rfl, rfl, rfl, by simp, by simp [Lis.rows], rfl, rfl⟩
 rintro n st ⟨cs, hn, h0, h3, hH0, h4, hH, hcl, hcd, h5, hnx⟩
 repeat refine zqj ?_
 (refine zqh fun K hK => ?_); (simp only [go_sem, Nat.reduceBEq, Nat.reduceBeqDiff, Nat.reduceEqDiff, ↓reduceIte, reduceCtorEq, Nat.reduceAdd, Nat.reduceMul, Nat.reduceLeDiff, Nat.reduceLT, Int.reduceLT, Int.reduceLE, Int.reduceEq, h5]); (refine hK _ ?_); (clear hK K)
 refine z0q fun K2 hK2 => ?_
 (refine zqm _ rfl (fun hc => ?_) (fun hc => ?_)) <;> (simp only [z06] at hc)
 ·obtain ⟨j, rfl⟩ : ∃ j, n = j + 1 := ⟨n - 1, by omega⟩
  have h5' : st.t 5 = .int .i64 (j : Int) := by rw [h5]; congr 1; omega
  refine zqk (hK2 _ ?_); clear hK2 K2 h5
  repeat refine zqj ?_
  refine z0q fun K2 hK2 => ?_
  refine zqi ?_
  repeat refine zqj ?_
  have hj : (j : Int) < (l.length : Int) := by omega
  have hj2 : j + 1 <= l.length := by omega
  (refine zqh fun K hK => ?_); (simp only [go_sem, Nat.reduceBEq, Nat.reduceBeqDiff, Nat.reduceEqDiff, ↓reduceIte, reduceCtorEq, Nat.reduceAdd, Nat.reduceMul, Nat.reduceLeDiff, Nat.reduceLT, Int.reduceLT, Int.reduceLE, Int.reduceEq, h4, h5', hH, hj, hcl, hj2, zay]); (refine hK _ ?_); (clear hK K)
  repeat refine zqj ?_
  have wj : IntKind.i64.wrap ((j : Int) + 1) = ((j + 1 + 0 : Nat) : Int) := by rw [z28 (by omega)]; omega
  (refine zqh fun K hK => ?_); (simp only [go_sem, Nat.reduceBEq, Nat.reduceBeqDiff, Nat.reduceEqDiff, ↓reduceIte, reduceCtorEq, Nat.reduceAdd, Nat.reduceMul, Nat.reduceLeDiff, Nat.reduceLT, Int.reduceLT, Int.reduceLE, Int.reduceEq, h5', wj]); (refine hK _ ?_); (clear hK K)
  refine zqi (z3f (fun m st => ∃ (k : Nat) (cs : List Int), m = l.length - (j + 1 + k) /\ j + 1 + k <= l.length /\ st.t 0 = z45 l /\ st.t 3 = .osl 0 0 /\ st.H 0 = some (.row 3 0 []) /\ st.t 4 = .osl 1 l.length /\ st.H 1 = some (.row 3 l.length (cs.map (D.int .i64))) /\ cs.length = l.length /\
   cs.drop (j + 1) = Lis.rows (l.drop (j + 1)) /\ st.t 5 = .int .i64 (j : Int) /\ st.t 6 = .int .i64 ((j + 1 + k : Nat) : Int) /\ cs[j]? = some (Lis.inner l j k) /\ 1 <= Lis.inner l j k /\ Lis.inner l j k <= l.length /\ st.nx = 2) (l.length - (j + 1)) ?_ ?_)
  ·refine ⟨0, cs.set j 1, rfl, hj2, h0, h3, hH0, h4, rfl, by simpa using hcl, ?_, h5', rfl, ?_, by simp [Lis.inner_zero], by simp [Lis.inner_zero]; omega, hnx⟩
   ·rw [List.drop_set_of_lt (by omega)]; exact hcd
   ·have : j < cs.length := by omega
    simp [Lis.inner_zero, this]
  clear hH0 hH hcd hcl h0 h3 h4 hnx h5' hn
  rintro m st ⟨k, cs, rfl, O, h0, h3, hH0, h4, hH, hcl, hcd, h5, h6, hcj, hi1, hi2, hnx⟩
  repeat refine zqj ?_
  (refine zqh fun K hK => ?_); (simp only [go_sem, Nat.reduceBEq, Nat.reduceBeqDiff, Nat.reduceEqDiff, ↓reduceIte, reduceCtorEq, Nat.reduceAdd, Nat.reduceMul, Nat.reduceLeDiff, Nat.reduceLT, Int.reduceLT, Int.reduceLE, Int.reduceEq, h6, h0, z45]); (refine hK _ ?_); (clear hK K)
  refine z0q fun K4 hK4 => ?_
  (refine zqm _ rfl (fun hc => ?_) (fun hc => ?_)) <;> (simp only [z06] at hc)
  ·have hk' : j + 1 + k < l.length := by omega
   refine zqk (hK4 _ ?_); clear hK4 K4
   refine z0q fun K4 hK4 => ?_
   refine zqi ?_
   repeat refine zqj ?_
   have i1 := z2u (D.int .i64) l (j + 1 + k) hk'
   have i2 := z2u (D.int .i64) l j (by omega)
   have hin := Lis.inner_succ l j k hk' cs hcl hcd
   have hle := Lis.rows_get_le l (j + 1 + k) cs hcl (j + 1) hcd (by omega) hk'
   have wk : IntKind.i64.wrap (cs[j + 1 + k] + 1) = cs[j + 1 + k] + 1 := z28 (by omega)
   have e1 : cs[j + 1 + k]? = some cs[j + 1 + k] := List.getElem?_eq_getElem (by omega)
   have hkn : ((j + 1 + k : Nat) : Int) < (l.length : Int) := by omega
   have tail : ∀ st' : St, (∃ cs' : List Int, st'.t 0 = z45 l /\ st'.t 3 = .osl 0 0 /\ st'.H 0 = some (.row 3 0 []) /\ st'.t 4 = .osl 1 l.length /\ st'.H 1 = some (.row 3 l.length (cs'.map (D.int .i64))) /\ cs'.length = l.length /\
     cs'.drop (j + 1) = Lis.rows (l.drop (j + 1)) /\ st'.t 5 = .int .i64 (j : Int) /\ st'.t 6 = .int .i64 ((j + 1 + k : Nat) : Int) /\ cs'[j]? = some (Lis.inner l j (k + 1)) /\ 1 <= Lis.inner l j (k + 1) /\ st'.nx = 2) -> K4 st' := by
    rintro st' ⟨cs', h0, h3, hH0, h4, hH, hcl, hcd, h5, h6, hcj, hi1, hnx⟩
    refine hK4 _ ?_
    have wk2 : IntKind.i64.wrap (((j + 1 + k : Nat) : Int) + 1) = ((j + 1 + (k + 1) : Nat) : Int) := by rw [z28 (by omega)]; omega
    (refine z1y ?_); (simp only [go_sem, Nat.reduceBEq, Nat.reduceBeqDiff, Nat.reduceEqDiff, ↓reduceIte, reduceCtorEq, Nat.reduceAdd, Nat.reduceMul, Nat.reduceLeDiff, Nat.reduceLT, Int.reduceLT, Int.reduceLE, Int.reduceEq, h6, wk2])
    exact ⟨l.length - (j + 1 + (k + 1)), by omega, k + 1, cs', rfl, by omega, h0, h3, hH0, h4, hH, hcl, hcd, h5, rfl, hcj, hi1, Lis.inner_le l j (k + 1) (by omega), hnx⟩
   by_cases c1 : l[j] < l[j + 1 + k]
   ·by_cases c2 : Lis.inner l j k < cs[j + 1 + k] + 1
    ·have e2 : Lis.inner l j (k + 1) = cs[j + 1 + k] + 1 := by rw [hin]; unfold Lis.upd1; rw [if_pos c1]; show max _ _ = _; omega
     (refine zqe (by decide +kernel) fun K hK => ?_); (simp only [go_sem, Nat.reduceBEq, Nat.reduceBeqDiff, Nat.reduceEqDiff, ↓reduceIte, reduceCtorEq, Nat.reduceAdd, Nat.reduceMul, Nat.reduceLeDiff, Nat.reduceLT, Int.reduceLT, Int.reduceLE, Int.reduceEq, h0, h5, h6, i1, i2, z45, c1, c2, h4, hH, hkn, hcl, e1, hcj, wk, hj, hj2]); (refine hK _ ?_); (clear hK K)
     refine zqm true rfl (fun _ => ?_) (fun hc => (by cases hc))
     (refine z1y ?_); (simp only [go_sem, Nat.reduceBEq, Nat.reduceBeqDiff, Nat.reduceEqDiff, ↓reduceIte, reduceCtorEq, Nat.reduceAdd, Nat.reduceMul, Nat.reduceLeDiff, Nat.reduceLT, Int.reduceLT, Int.reduceLE, Int.reduceEq, h4, h5, h6, hH, hj, hkn, hcl, hj2, e1, hcj, wk, zay])
     refine (show K4 _ from tail _ ⟨cs.set j (cs[j + 1 + k] + 1), h0, h3, hH0, h4, rfl, by simpa using hcl, ?_, h5, h6, ?_, by omega, hnx⟩)
     ·rw [List.drop_set_of_lt (by omega)]; exact hcd
     ·rw [e2, List.getElem?_set_self (by omega)]
    ·have e2 : Lis.inner l j (k + 1) = Lis.inner l j k := by rw [hin]; unfold Lis.upd1; rw [if_pos c1]; show max _ _ = _; omega
     (refine zqe (by decide +kernel) fun K hK => ?_); (simp only [go_sem, Nat.reduceBEq, Nat.reduceBeqDiff, Nat.reduceEqDiff, ↓reduceIte, reduceCtorEq, Nat.reduceAdd, Nat.reduceMul, Nat.reduceLeDiff, Nat.reduceLT, Int.reduceLT, Int.reduceLE, Int.reduceEq, h0, h5, h6, i1, i2, z45, c1, c2, h4, hH, hkn, hcl, e1, hcj, wk, hj, hj2]); (refine hK _ ?_); (clear hK K)
     refine zqm false rfl (fun hc => (by cases hc)) (fun _ => ?_)
     exact zqk (tail _ ⟨cs, h0, h3, hH0, h4, hH, hcl, hcd, h5, h6, by rw [e2]; exact hcj, by omega, hnx⟩)
   ·have e2 : Lis.inner l j (k + 1) = Lis.inner l j k := by rw [hin]; unfold Lis.upd1; rw [if_neg c1]
    (refine zqe (by decide +kernel) fun K hK => ?_); (simp only [go_sem, Nat.reduceBEq, Nat.reduceBeqDiff, Nat.reduceEqDiff, ↓reduceIte, reduceCtorEq, Nat.reduceAdd, Nat.reduceMul, Nat.reduceLeDiff, Nat.reduceLT, Int.reduceLT, Int.reduceLE, Int.reduceEq, h0, h5, h6, i1, i2, z45, c1]); (refine hK _ ?_); (clear hK K)
    refine zqm false rfl (fun hc => (by cases hc)) (fun _ => ?_)
    exact zqk (tail _ ⟨cs, h0, h3, hH0, h4, hH, hcl, hcd, h5, h6, by rw [e2]; exact hcj, by omega, hnx⟩)
  ·refine zql ?_
   have hkk : j + 1 + k = l.length := by omega
   refine (show K2 _ from hK2 _ ?_)
   have wj2 : IntKind.i64.wrap ((j : Int) - 1) = (j : Int) - 1 := z28 (by omega)
   (refine z1y ?_); (simp only [go_sem, Nat.reduceBEq, Nat.reduceBeqDiff, Nat.reduceEqDiff, ↓reduceIte, reduceCtorEq, Nat.reduceAdd, Nat.reduceMul, Nat.reduceLeDiff, Nat.reduceLT, Int.reduceLT, Int.reduceLE, Int.reduceEq, h5, wj2])
   have hall := Lis.inner_all l j (by omega)
   have hk0 : l.length - (j + 1) = k := by omega
   rw [hk0] at hall
   refine ⟨j, by omega, cs, by omega, h0, h3, hH0, h4, hH, hcl, ?_, rfl, hnx⟩
   rw [hall, List.drop_eq_getElem_cons (by omega), hcd]
   congr 1
   rw [List.getElem?_eq_getElem (by omega)] at hcj
   exact Option.some.inj hcj
 ·refine zql ?_
  refine (show K _ from hK _ ?_)
  obtain rfl : n = 0 := by omega
  simp only [List.drop_zero] at hcd
  subst hcd
  have hrl := Lis.rows_length l
  (refine zqh fun K hK => ?_); (simp only [go_sem, Nat.reduceBEq, Nat.reduceBeqDiff, Nat.reduceEqDiff, ↓reduceIte, reduceCtorEq, Nat.reduceAdd, Nat.reduceMul, Nat.reduceLeDiff, Nat.reduceLT, Int.reduceLT, Int.reduceLE, Int.reduceEq]); (refine hK _ ?_); (clear hK K)
  repeat refine zqj ?_
  (refine zqh fun K hK => ?_); (simp only [go_sem, Nat.reduceBEq, Nat.reduceBeqDiff, Nat.reduceEqDiff, ↓reduceIte, reduceCtorEq, Nat.reduceAdd, Nat.reduceMul, Nat.reduceLeDiff, Nat.reduceLT, Int.reduceLT, Int.reduceLE, Int.reduceEq]); (refine hK _ ?_); (clear hK K)
  refine z0q fun K3 hK3 => ?_
  refine zqi (z3f (fun n st => ∃ i : Nat, n = l.length - i /\ i <= l.length /\ st.t 0 = z45 l /\ st.t 3 = .osl 0 0 /\ st.H 0 = some (.row 3 0 []) /\ st.t 4 = .osl 1 l.length /\ st.H 1 = some (.row 3 l.length ((Lis.rows l).map (D.int .i64))) /\
   st.t 7 = .int .i64 (((Lis.rows l).take i).foldl max 0) /\ st.t 8 = .int .i64 i /\ st.nx = 2) l.length ?_ ?_)
  ·exact ⟨0, by omega, by omega, h0, h3, hH0, h4, hH, rfl, rfl, hnx⟩
  clear h0 h3 hH0 h4 hH h5 hnx
  rintro n st ⟨i, rfl, hi, h0, h3, hH0, h4, hH, h7, h8, hnx⟩
  repeat refine zqj ?_
  (refine zqh fun K hK => ?_); (simp only [go_sem, Nat.reduceBEq, Nat.reduceBeqDiff, Nat.reduceEqDiff, ↓reduceIte, reduceCtorEq, Nat.reduceAdd, Nat.reduceMul, Nat.reduceLeDiff, Nat.reduceLT, Int.reduceLT, Int.reduceLE, Int.reduceEq, h8, h0, z45]); (refine hK _ ?_); (clear hK K)
  refine z0q fun K4 hK4 => ?_
  (refine zqm _ rfl (fun hc => ?_) (fun hc => ?_)) <;> (simp only [z06] at hc)
  ·have hi' : i < l.length := by omega
   refine zqk (hK4 _ ?_)
   refine z0q fun K5 hK5 => ?_
   refine zqi ?_
   repeat refine zqj ?_
   have hri : (Lis.rows l)[i]? = some ((Lis.rows l)[i]'(by omega)) := List.getElem?_eq_getElem (by omega)
   have hin : (i : Int) < (l.length : Int) := by omega
   have htk := Lis.take_most (Lis.rows l) i (by omega)
   have wi : IntKind.i64.wrap ((i : Int) + 1) = ((i + 1 : Nat) : Int) := by rw [z28 (by omega)]; omega
   (refine zqh fun K hK => ?_); (simp only [go_sem, Nat.reduceBEq, Nat.reduceBeqDiff, Nat.reduceEqDiff, ↓reduceIte, reduceCtorEq, Nat.reduceAdd, Nat.reduceMul, Nat.reduceLeDiff, Nat.reduceLT, Int.reduceLT, Int.reduceLE, Int.reduceEq, h8, h4, hH, h7, hin, hrl, hri, hi']); (refine hK _ ?_); (clear hK K)
   (refine zqm _ rfl (fun hc => ?_) (fun hc => ?_)) <;> (simp only [z06] at hc)
   ·(refine z1y ?_); (simp only [go_sem, Nat.reduceBEq, Nat.reduceBeqDiff, Nat.reduceEqDiff, ↓reduceIte, reduceCtorEq, Nat.reduceAdd, Nat.reduceMul, Nat.reduceLeDiff, Nat.reduceLT, Int.reduceLT, Int.reduceLE, Int.reduceEq, h8, h4, hH, h7, hin, hrl, hri, hi'])
    refine (show K5 _ from hK5 _ ?_)
    (refine z1y ?_); (simp only [go_sem, Nat.reduceBEq, Nat.reduceBeqDiff, Nat.reduceEqDiff, ↓reduceIte, reduceCtorEq, Nat.reduceAdd, Nat.reduceMul, Nat.reduceLeDiff, Nat.reduceLT, Int.reduceLT, Int.reduceLE, Int.reduceEq, h8, wi])
    exact ⟨l.length - (i + 1), by omega, i + 1, rfl, by omega, h0, h3, hH0, h4, hH, by rw [htk, Int.max_eq_right (by omega)]; rfl, rfl, hnx⟩
   ·refine zqk (hK5 _ ?_)
    (refine z1y ?_); (simp only [go_sem, Nat.reduceBEq, Nat.reduceBeqDiff, Nat.reduceEqDiff, ↓reduceIte, reduceCtorEq, Nat.reduceAdd, Nat.reduceMul, Nat.reduceLeDiff, Nat.reduceLT, Int.reduceLT, Int.reduceLE, Int.reduceEq, h8, wi])
    exact ⟨l.length - (i + 1), by omega, i + 1, rfl, by omega, h0, h3, hH0, h4, hH, by rw [htk, Int.max_eq_left (by omega)]; exact h7, rfl, hnx⟩
  ·refine zql ?_
   show K3 _
   refine hK3 _ ?_
   obtain rfl : i = l.length := by omega
   have hm : ((Lis.rows l).take l.length).foldl max 0 = Lis.most l := by
    rw [List.take_of_length_le (by omega)]
    rcases Lis.foldr_max (Lis.rows l) 0 with h | h
    ·rw [h]; have := Lis.most_bd l; unfold Lis.most at this ⊢; omega
    ·omega
   rw [hm] at h7
   repeat refine zqj ?_
   (refine zqh fun K hK => ?_); (simp only [go_sem, Nat.reduceBEq, Nat.reduceBeqDiff, Nat.reduceEqDiff, ↓reduceIte, reduceCtorEq, Nat.reduceAdd, Nat.reduceMul, Nat.reduceLeDiff, Nat.reduceLT, Int.reduceLT, Int.reduceLE, Int.reduceEq]); (refine hK _ ?_); (clear hK K)
   refine z0q fun K5 hK5 => ?_
   refine zqi (z3f (fun n st => ∃ i : Nat, n = l.length - i /\ i <= l.length /\ st.t 0 = z45 l /\ st.t 4 = .osl 1 l.length /\ st.H 1 = some (.row 3 l.length ((Lis.rows l).map (D.int .i64))) /\
    st.t 7 = .int .i64 (Lis.most l - (Lis.sel l i).length) /\ st.t 9 = .int .i64 i /\ st.t 3 = .osl 0 (Lis.sel l i).length /\ st.H 0 = some (.row 3 (Lis.sel l i).length ((Lis.sel l i).map fun (n : Nat) => D.int .i64 (n : Int)))) l.length ?_ ?_)
   ·exact ⟨0, by omega, by omega, h0, h4, hH, by show st.t 7 = _; rw [h7]; simp [Lis.sel], rfl, h3, hH0⟩
   clear h0 h3 hH0 h4 hH h7 h8 hnx
   rintro n st ⟨i, rfl, hi, h0, h4, hH, h7, h9, h3, hH0⟩
   have fin : ∀ st' : St, Lis.sel l i = Lis.sel l l.length -> st'.t 3 = .osl 0 (Lis.sel l i).length -> st'.H 0 = some (.row 3 (Lis.sel l i).length ((Lis.sel l i).map fun (n : Nat) => D.int .i64 (n : Int))) -> K5 st' := by
    intro st' he h3 hH0
    refine hK5 _ ?_
    (refine zqh fun K hK => ?_); (simp only [go_sem, Nat.reduceBEq, Nat.reduceBeqDiff, Nat.reduceEqDiff, ↓reduceIte, reduceCtorEq, Nat.reduceAdd, Nat.reduceMul, Nat.reduceLeDiff, Nat.reduceLT, Int.reduceLT, Int.reduceLE, Int.reduceEq, h3]); (refine hK _ ?_); (clear hK K)
    (refine zqn ?_); (refine Exists.intro _ (And.intro rfl ?_))
    refine zmi 0 hH0 z2n z52 (by simp) (z0a (fun _ => rfl) _) ?_
    simp only [Lis.lis]
    rw [if_neg (by omega), List.map_map, he]
    rfl
   have hsm := Lis.sel_le_most l i
   have hsl := Lis.sel_len l i
   have hmb := Lis.most_bd l
   have hs := Lis.sel_succ l i
   have wi : IntKind.i64.wrap ((i : Int) + 1) = ((i + 1 : Nat) : Int) := by rw [z28 (by omega)]; omega
   repeat refine zqj ?_
   by_cases c0 : i < l.length
   ·have hin : (i : Int) < (l.length : Int) := by omega
    have i1 := z2u (D.int .i64) l i c0
    have hri : (Lis.rows l)[i]? = some ((Lis.rows l).getD i 0) := by rw [List.getD_eq_getElem?_getD, List.getElem?_eq_getElem (by omega)]; rfl
    by_cases c1 : 0 < Lis.most l - ((Lis.sel l i).length : Int)
    ·(refine zqh fun K hK => ?_); (simp only [go_sem, Nat.reduceBEq, Nat.reduceBeqDiff, Nat.reduceEqDiff, ↓reduceIte, reduceCtorEq, Nat.reduceAdd, Nat.reduceMul, Nat.reduceLeDiff, Nat.reduceLT, Int.reduceLT, Int.reduceLE, Int.reduceEq, h9, h0, z45, hin, h7, c1]); (refine hK _ ?_); (clear hK K)
     refine z0q fun K6 hK6 => ?_
     refine zqm true rfl (fun _ => ?_) (fun hc => (by cases hc))
     refine zqk (hK6 _ ?_)
     refine z0q fun K7 hK7 => ?_
     refine zqi ?_
     repeat refine zqj ?_
     have tail : ∀ st' : St, st'.t 0 = z45 l -> st'.t 4 = .osl 1 l.length -> st'.H 1 = some (.row 3 l.length ((Lis.rows l).map (D.int .i64))) ->
       st'.t 7 = .int .i64 (Lis.most l - (Lis.sel l (i + 1)).length) -> st'.t 9 = .int .i64 i -> st'.t 3 = .osl 0 (Lis.sel l (i + 1)).length -> st'.H 0 = some (.row 3 (Lis.sel l (i + 1)).length ((Lis.sel l (i + 1)).map fun (n : Nat) => D.int .i64 (n : Int))) -> K7 st' := by
      intro st' h0 h4 hH h7 h9 h3 hH0
      refine hK7 _ ?_
      (refine z1y ?_); (simp only [go_sem, Nat.reduceBEq, Nat.reduceBeqDiff, Nat.reduceEqDiff, ↓reduceIte, reduceCtorEq, Nat.reduceAdd, Nat.reduceMul, Nat.reduceLeDiff, Nat.reduceLT, Int.reduceLT, Int.reduceLE, Int.reduceEq, h9, wi])
      exact ⟨l.length - (i + 1), by omega, i + 1, rfl, by omega, h0, h4, hH, h7, rfl, h3, hH0⟩
     by_cases c2 : (Lis.rows l).getD i 0 = Lis.most l - ((Lis.sel l i).length : Int)
     ·have hb1 : ((Lis.sel l i).length + 1) * 8 <= 140737488355328 := by omega
      have hb2 : (Lis.sel l i).length + 1 <= maxLen := by unfold maxLen; omega
      have F : (Lis.sel l i).length <= 9223372036854775806 := by omega
      have wm : IntKind.i64.wrap (Lis.most l - ((Lis.sel l i).length : Int) - 1) = Lis.most l - (((Lis.sel l i).length + 1 : Nat) : Int) := by rw [z28 (by omega)]; omega
      have fin : (Lis.sel l i = [] \/ l.getD ((Lis.sel l i).getLastD 0) 0 < l.getD i 0) -> Lis.sel l (i + 1) = Lis.sel l i ++ [i] := by
       intro h; rw [hs]; unfold Lis.sel1; rw [if_pos ⟨by omega, c2, h⟩]
      have fin2 : ¬ (Lis.sel l i = [] \/ l.getD ((Lis.sel l i).getLastD 0) 0 < l.getD i 0) -> Lis.sel l (i + 1) = Lis.sel l i := by
       intro h; rw [hs]; unfold Lis.sel1; rw [if_neg (fun h' => h h'.2.2)]
      by_cases c3 : Lis.sel l i = []
      ·have c3' : ((Lis.sel l i).length : Int) = 0 := by rw [c3]; rfl
       rw [c3'] at c2
       have h7' : st.t 7 = .int .i64 (Lis.most l - 0) := by rw [h7, c3']
       (refine zqe (by decide +kernel) fun K hK => ?_); (simp only [go_sem, Nat.reduceBEq, Nat.reduceBeqDiff, Nat.reduceEqDiff, ↓reduceIte, reduceCtorEq, Nat.reduceAdd, Nat.reduceMul, Nat.reduceLeDiff, Nat.reduceLT, Int.reduceLT, Int.reduceLE, Int.reduceEq, h9, h4, hH, hin, hri, hrl, h7', c2, h3, c3', c0]); (refine hK _ ?_); (clear hK K)
       refine zqm true rfl (fun _ => ?_) (fun hc => (by cases hc))
       (refine zqh fun K hK => ?_); (simp only [go_sem, Nat.reduceBEq, Nat.reduceBeqDiff, Nat.reduceEqDiff, ↓reduceIte, reduceCtorEq, Nat.reduceAdd, Nat.reduceMul, Nat.reduceLeDiff, Nat.reduceLT, Int.reduceLT, Int.reduceLE, Int.reduceEq, h3, h9, hH0, hb1, hb2, F]); (refine hK _ ?_); (clear hK K)
       (refine z1y ?_); (simp only [go_sem, Nat.reduceBEq, Nat.reduceBeqDiff, Nat.reduceEqDiff, ↓reduceIte, reduceCtorEq, Nat.reduceAdd, Nat.reduceMul, Nat.reduceLeDiff, Nat.reduceLT, Int.reduceLT, Int.reduceLE, Int.reduceEq, h7, wm])
       refine (show K7 _ from tail _ h0 h4 hH ?_ h9 ?_ ?_)
       ·rw [fin (.inl c3), List.length_append]; rfl
       ·rw [fin (.inl c3), List.length_append]; rfl
       ·rw [fin (.inl c3), List.length_append, List.map_append]; rfl
      ·have hpos : 0 < (Lis.sel l i).length := List.length_pos_iff.2 c3
       have c3' : ¬ ((Lis.sel l i).length : Int) = 0 := by omega
       have wl : IntKind.i64.wrap (((Lis.sel l i).length : Int) - 1) = (((Lis.sel l i).length - 1 : Nat) : Int) := by rw [z28 (by omega)]; omega
       have hcc : (((Lis.sel l i).length - 1 : Nat) : Int) < ((Lis.sel l i).length : Int) := by omega
       have hlast : (Lis.sel l i)[(Lis.sel l i).length - 1]? = some ((Lis.sel l i).getLastD 0) := by
        rw [List.getLastD_eq_getLast?, List.getLast?_eq_getElem?, List.getElem?_eq_getElem (by omega)]; rfl
       have hlt : (Lis.sel l i).getLastD 0 < l.length := by
        have := Lis.sel_lt l i _ (List.mem_of_getElem? hlast); omega
       have i2 := z2u (D.int .i64) l _ hlt
       have hle1 : (Lis.sel l i).length - 1 < (Lis.sel l i).length := by omega
       by_cases c4 : l[(Lis.sel l i).getLastD 0] < l[i]
       ·(refine zqe (by decide +kernel) fun K hK => ?_); (simp only [go_sem, Nat.reduceBEq, Nat.reduceBeqDiff, Nat.reduceEqDiff, ↓reduceIte, reduceCtorEq, Nat.reduceAdd, Nat.reduceMul, Nat.reduceLeDiff, Nat.reduceLT, Int.reduceLT, Int.reduceLE, Int.reduceEq, h9, h4, hH, hin, hri, hrl, h7, c2, h3, c3', c0, h0, z45, i1, i2, wl, hcc, hH0, hlast, c4]); (refine hK _ ?_); (clear hK K)
        have c4' : l.getD ((Lis.sel l i).getLastD 0) 0 < l.getD i 0 := by
         rw [List.getD_eq_getElem?_getD, List.getD_eq_getElem?_getD, List.getElem?_eq_getElem hlt, List.getElem?_eq_getElem c0]
         exact c4
        refine zqm true rfl (fun _ => ?_) (fun hc => (by cases hc))
        (refine zqh fun K hK => ?_); (simp only [go_sem, Nat.reduceBEq, Nat.reduceBeqDiff, Nat.reduceEqDiff, ↓reduceIte, reduceCtorEq, Nat.reduceAdd, Nat.reduceMul, Nat.reduceLeDiff, Nat.reduceLT, Int.reduceLT, Int.reduceLE, Int.reduceEq, h3, h9, hH0, hb1, hb2, F]); (refine hK _ ?_); (clear hK K)
        (refine z1y ?_); (simp only [go_sem, Nat.reduceBEq, Nat.reduceBeqDiff, Nat.reduceEqDiff, ↓reduceIte, reduceCtorEq, Nat.reduceAdd, Nat.reduceMul, Nat.reduceLeDiff, Nat.reduceLT, Int.reduceLT, Int.reduceLE, Int.reduceEq, h7, wm])
        refine (show K7 _ from tail _ h0 h4 hH ?_ h9 ?_ ?_)
        ·rw [fin (.inr c4'), List.length_append]; rfl
        ·rw [fin (.inr c4'), List.length_append]; rfl
        ·rw [fin (.inr c4'), List.length_append, List.map_append]; rfl
       ·(refine zqe (by decide +kernel) fun K hK => ?_); (simp only [go_sem, Nat.reduceBEq, Nat.reduceBeqDiff, Nat.reduceEqDiff, ↓reduceIte, reduceCtorEq, Nat.reduceAdd, Nat.reduceMul, Nat.reduceLeDiff, Nat.reduceLT, Int.reduceLT, Int.reduceLE, Int.reduceEq, h9, h4, hH, hin, hri, hrl, h7, c2, h3, c3', c0, h0, z45, i1, i2, wl, hcc, hH0, hlast, c4]); (refine hK _ ?_); (clear hK K)
        refine zqm false rfl (fun hc => (by cases hc)) (fun _ => ?_)
        have c4' : ¬ (Lis.sel l i = [] \/ l.getD ((Lis.sel l i).getLastD 0) 0 < l.getD i 0) := by
         rintro (h | h)
         ·exact c3 h
         ·apply c4
          rw [List.getD_eq_getElem?_getD, List.getD_eq_getElem?_getD, List.getElem?_eq_getElem hlt, List.getElem?_eq_getElem c0] at h
          exact h
        refine zqk ?_
        refine tail _ h0 h4 hH ?_ h9 ?_ ?_ <;> rw [fin2 c4']
        ·exact h7
        ·exact h3
        ·exact hH0
     ·(refine zqe (by decide +kernel) fun K hK => ?_); (simp only [go_sem, Nat.reduceBEq, Nat.reduceBeqDiff, Nat.reduceEqDiff, ↓reduceIte, reduceCtorEq, Nat.reduceAdd, Nat.reduceMul, Nat.reduceLeDiff, Nat.reduceLT, Int.reduceLT, Int.reduceLE, Int.reduceEq, h9, h4, hH, hin, hri, hrl, h7, c2, c0]); (refine hK _ ?_); (clear hK K)
      refine zqm false rfl (fun hc => (by cases hc)) (fun _ => ?_)
      refine zqk ?_
      have fin2 : Lis.sel l (i + 1) = Lis.sel l i := by rw [hs]; unfold Lis.sel1; rw [if_neg (fun h => c2 h.2.1)]
      refine tail _ h0 h4 hH ?_ h9 ?_ ?_ <;> rw [fin2]
      ·exact h7
      ·exact h3
      ·exact hH0
    ·(refine zqh fun K hK => ?_); (simp only [go_sem, Nat.reduceBEq, Nat.reduceBeqDiff, Nat.reduceEqDiff, ↓reduceIte, reduceCtorEq, Nat.reduceAdd, Nat.reduceMul, Nat.reduceLeDiff, Nat.reduceLT, Int.reduceLT, Int.reduceLE, Int.reduceEq, h9, h0, z45, hin, h7, c1]); (refine hK _ ?_); (clear hK K)
     refine z0q fun K6 hK6 => ?_
     refine zqm false rfl (fun hc => (by cases hc)) (fun _ => ?_)
     refine zql (show K5 _ from fin _ ?_ h3 hH0)
     have := Lis.sel_stop l i (by omega) (l.length - i)
     rw [<- this]; congr 1; omega
   ·obtain rfl : i = l.length := by omega
    have hin : ¬ (l.length : Int) < (l.length : Int) := by omega
    (refine zqh fun K hK => ?_); (simp only [go_sem, Nat.reduceBEq, Nat.reduceBeqDiff, Nat.reduceEqDiff, ↓reduceIte, reduceCtorEq, Nat.reduceAdd, Nat.reduceMul, Nat.reduceLeDiff, Nat.reduceLT, Int.reduceLT, Int.reduceLE, Int.reduceEq, h9, h0, z45, hin]); (refine hK _ ?_); (clear hK K)
    refine z0q fun K6 hK6 => ?_
    refine zqm false rfl (fun hc => (by cases hc)) (fun _ => ?_)
    exact zql (show K5 _ from fin _ rfl h3 hH0)
end
section
open Abs Facts Tr
attribute [local irreducible] awp
set_option maxRecDepth 100000
namespace Tr
def zf3 (p : T) (l : List Idv) : List Int := l.map fun i => ((p.kids.map T.id).idxOf i : Int)
def risL (p : T) (l : List Idv) : List Idv := (Lis.lis (zf3 p l)).map fun n => l.getD n Idv.zero
end Tr
set_option maxHeartbeats 16000000 in
theorem ztu (p : T) (l : List Idv) (hp : szB p = true) (hll : l.length <= 1000000) (hn : (p.kids.map T.id).Nodup) (hl : ∀ i ∈ l, i ∈ p.kids.map T.id) : PC prog 28 [z1o p, z0m l] (z0m (risL p l)) := by
 obtain ⟨h0, h1, g1, h2, g2, h3, h4⟩ := (z3o p).1 hp
 refine z3q 3 (by simp only [pureD.pureL, z0h, z3w, Bool.and_self]) (z3w _) (z30 [11, 42] func28 rfl (by decide +kernel) rfl ?_)
 show awp _ _ (Code.seq _ _) _ _
 repeat' (first | refine nxt ?_ | ((refine zqh fun K hK => ?_); (simp (disch := omega) only [go_sem, Nat.reduceBEq, ↓reduceIte, reduceCtorEq, Nat.reduceAdd])) | (refine hK _ ?_; clear hK K))
 (refine z6x (fun U st => ∃ (i : Nat), U = l.length - i /\ st.t 1 = z0m l /\ st.t 2 = .ptr 0 0 /\ st.t 5 = .osl 1 i /\ st.t 6 = .int .i64 i /\ st.H (0) = some (.box 27 (z04 p)) /\ st.H (1) = some (.row 3 i ((zf3 p (l.take i)).map (D.int .i64))) /\ st.nx = 2 /\ (i <= l.length)) ?_ ?_); rotate_left; (rintro U st ⟨i, rfl, v1, v2, v5, v6, vH0, vH1, vnx, vp0⟩); rotate_left
 ·(refine ⟨_, 0, rfl, ?_⟩); (simp (disch := omega) only [go_sem, Nat.reduceBEq, true_and, and_true, and_self, Int.natCast_zero, z0m])
  rfl
 by_cases hi : i < l.length
 ·have hli := hl _ (List.getElem_mem hi)
  have htk : zf3 p (l.take (i + 1)) = zf3 p (l.take i) ++ [((p.kids.map T.id).idxOf l[i] : Int)] := by rw [List.take_succ_eq_append_getElem hi, zf3, List.map_append]; rfl
  obtain ⟨x, hx⟩ : ∃ x, x = (p.kids.map T.id).idxOf l[i] := ⟨_, rfl⟩
  have hxl : x < p.kids.length := by have := List.idxOf_lt_length_iff.2 hli; rw [List.length_map] at this; omega
  have hxi : p.kids[x].id = l[i] := by
   have := List.getElem_idxOf (xs := p.kids.map T.id) (x := l[i]) (by rw [List.length_map]; omega)
   simpa [<- hx] using this
  rw [<- hx] at htk
  repeat' (first | refine nxt ?_ | ((refine zqh fun K hK => ?_); (simp (disch := omega) only [go_sem, Nat.reduceBEq, ↓reduceIte, v1, v6, vnx, z0m])) | (refine zqd _ rfl ?_ ?_ <;> intro hc <;> (((try simp only [z06] at hc); (try omega)))) | (refine hK _ ?_; clear hK K))
  (refine z6x (fun U st => ∃ (k : Nat), U = p.kids.length - k /\ st.t 1 = z0m l /\ st.t 2 = .ptr 0 0 /\ st.t 5 = .osl 1 (if x < k then i + 1 else i) /\ st.t 6 = .int .i64 i /\ st.t 7 = .int .i64 k /\ st.H (0) = some (.box 27 (z04 p)) /\ st.H (1) = some (.row 3 (if x < k then i + 1 else i) ((zf3 p (l.take (if x < k then i + 1 else i))).map (D.int .i64))) /\ st.nx = 2 /\ (k <= p.kids.length)) ?_ ?_); rotate_left; (rintro U st ⟨k, rfl, w1, w2, w5, w6, w7, wH0, wH1, wnx, wp0⟩); rotate_left
  ·(refine ⟨_, 0, rfl, ?_⟩); (simp (disch := omega) only [go_sem, Nat.reduceBEq, v1, v2, v5, v6, vH0, vH1, true_and, and_true, and_self, Int.natCast_zero])
   rw [if_neg (by omega)]
   exact ⟨rfl, rfl⟩
  by_cases O : k < p.kids.length
  ·by_cases he : p.kids[k].id = l[i]
   ·have hkx : k = x := by
     have h5 : (p.kids.map T.id)[k]'(by rw [List.length_map]; omega) = (p.kids.map T.id)[x]'(by rw [List.length_map]; omega) := by simp [he, hxi]
     exact (List.getElem_inj hn).1 h5
    subst hkx
    rw [if_neg (Nat.lt_irrefl _)] at w5 wH1
    repeat' (first | refine nxt ?_ | ((first | refine zqh fun K hK => ?_ | refine zqe (by decide +kernel) fun K hK => ?_ | refine zqr fun K hK => ?_); (simp (disch := omega) only [go_sem, Nat.reduceBEq, Nat.reduceEqDiff, ↓reduceIte, reduceCtorEq, Nat.reduceAdd, Nat.reduceLeDiff, Nat.reduceLT, w1, w2, w5, w6, w7, wH0, wH1, wnx, z0l, z0m, he])) | ((first | refine zqd _ rfl (fun hc => ?_) (fun hc => ?_) | refine zqm _ rfl (fun hc => ?_) (fun hc => ?_)) <;> (first | (cases hc; done) | ((try simp only [z06] at hc); (try omega)))) | (refine hK _ ?_; clear hK K))
    have hlt : k < k + 1 := Nat.lt_succ_self _
    (refine Exists.intro _ (And.intro ?_ ⟨k + 1, rfl, ?_⟩)); rotate_left; (simp (disch := omega) only [go_sem, Nat.reduceBEq, w1, w2, w5, w6, w7, wH0, wH1, true_and, Int.natCast_add, Int.natCast_one, List.map_append, List.map_cons, List.map_nil, if_pos hlt, htk]); rotate_left
    ·omega
    ·omega
   ·have hkx : ¬ k = x := fun e => he (by subst e; exact hxi)
    have hlt : (x < k + 1) ↔ (x < k) := by omega
    repeat' (first | refine nxt ?_ | ((first | refine zqh fun K hK => ?_ | refine zqe (by decide +kernel) fun K hK => ?_ | refine zqr fun K hK => ?_); (simp (disch := omega) only [go_sem, Nat.reduceBEq, Nat.reduceEqDiff, ↓reduceIte, reduceCtorEq, Nat.reduceAdd, Nat.reduceLeDiff, w1, w2, w6, w7, wH0, wnx, z0l, z0m, he])) | ((first | refine zqd _ rfl (fun hc => ?_) (fun hc => ?_) | refine zqm _ rfl (fun hc => ?_) (fun hc => ?_)) <;> (first | (cases hc; done) | ((try simp only [z06] at hc); (try omega)))) | (refine hK _ ?_; clear hK K))
    (refine Exists.intro _ (And.intro ?_ ⟨k + 1, rfl, ?_⟩)); rotate_left; (simp (disch := omega) only [go_sem, Nat.reduceBEq, w1, w2, w5, w6, w7, wH0, wH1, true_and, Int.natCast_add, Int.natCast_one, hlt]); rotate_left
    ·omega
    ·omega
  ·rw [if_pos (by omega)] at w5 wH1
   repeat' (first | refine nxt ?_ | ((first | refine zqh fun K hK => ?_ | refine zqr fun K hK => ?_); (simp (disch := omega) only [go_sem, Nat.reduceBEq, ↓reduceIte, reduceCtorEq, Nat.reduceAdd, w2, w6, w7, wH0, wnx, z0l])) | (refine zqd _ rfl ?_ ?_ <;> intro hc <;> (((try simp only [z06] at hc); (try omega)))) | refine zqz ?_ | (refine hK _ ?_; clear hK K))
   (refine Exists.intro _ (And.intro ?_ ⟨i + 1, rfl, ?_⟩)); rotate_left; (simp (disch := omega) only [go_sem, Nat.reduceBEq, w1, w2, w5, w6, wH0, wH1, true_and, Int.natCast_add, Int.natCast_one]); rotate_left
   ·omega
   ·omega
 ·have hta : l.take i = l := List.take_of_length_le (by omega)
  have hil : i = l.length := by omega
  subst hil
  rw [List.take_length] at vH1
  have cl := pc13 (zf3 p l) (by unfold maxLen zf3; rw [List.length_map]; omega)
  have hl1 : D.rsl false (z00 prog 3) (z1h (z03 prog 3) (z00 prog 3) l.length ((zf3 p l).map (D.int .i64))) = z45 (zf3 p l) := by
   have h5 : l.length = ((zf3 p l).map (D.int .i64)).length := by unfold zf3; simp
   rw [z2n, z52, h5, z72]; rfl
  obtain ⟨L, hL⟩ : ∃ L, L = Lis.lis (zf3 p l) := ⟨_, rfl⟩
  have hLl : ∀ n ∈ L, n < l.length := fun n hn => by rw [hL] at hn; have := (Lis.lis_rise (zf3 p l)).2 n hn; simpa [zf3] using this
  have hre : risL p l = L.map fun n => l.getD n Idv.zero := by rw [hL]; rfl
  rw [<- hL] at cl
  repeat' (first | refine nxt ?_ | ((refine zqh fun K hK => ?_); (simp (disch := omega) only [go_sem, Nat.reduceBEq, ↓reduceIte, v1, v6, z0m])) | (refine zqd _ rfl ?_ ?_ <;> intro hc <;> (((try simp only [z06] at hc); (try omega)))) | (refine hK _ ?_; clear hK K))
  refine zqz (zk7 _ (zkp (id := 1) (j := 5) (e := 3) (n := l.length) (cs := (zf3 p l).map (D.int .i64)) (by (simp (disch := omega) only [go_sem, vH1])) (by decide +kernel) (z0a (fun _ => rfl) _) (by (simp (disch := omega) only [go_sem, Nat.reduceBEq, v5]))) ?_)
  rw [hl1]
  repeat' (first | refine nxt ?_ | ((first | refine zqh fun K hK => ?_ | refine zqs (cl) ?_); (simp (disch := omega) only [go_sem, Nat.reduceBEq, ↓reduceIte, reduceCtorEq, Nat.reduceAdd, Nat.reduceMul, v5, vnx])) | (refine hK _ ?_; clear hK K))
  have hLb : L.length <= 1000000 := by
   rw [hL]
   have h6 := Lis.lis_rise (zf3 p l)
   have h7 : (Lis.lis (zf3 p l)).length <= (zf3 p l).length := by
    unfold Lis.lis
    split
    ·exact Nat.zero_le _
    ·exact Lis.sel_len _ _
   unfold zf3 at h7
   rw [List.length_map] at h7
   unfold zf3
   omega
  (refine z6x (fun U st => ∃ (i : Nat), U = L.length - i /\ st.t 1 = z0m l /\ st.t 8 = z45 (L.map fun (n : Nat) => (n : Int)) /\ st.t 9 = .osl 2 i /\ st.t 10 = .int .i64 i /\ st.H (2) = some (.row 23 i (((L.take i).map fun n => l.getD n Idv.zero).flatMap cellsId)) /\ st.nx = 3 /\ (i <= L.length)) ?_ ?_); rotate_left; (rintro U st ⟨i, rfl, u1, u8, u9, u10, uH2, unx, up0⟩); rotate_left
  ·(refine ⟨_, 0, rfl, ?_⟩); (simp (disch := omega) only [go_sem, Nat.reduceBEq, v1, and_self, Int.natCast_zero, List.flatMap_nil, List.map_nil, z45, z0m])
  by_cases hi : i < L.length
  ·have hlt := hLl _ (List.getElem_mem hi)
   have htk := List.take_succ_eq_append_getElem hi
   have hgd : l.getD L[i] Idv.zero = l[L[i]] := by simp [List.getD, hlt]
   repeat' (first | refine nxt ?_ | ((first | refine zqh fun K hK => ?_ | refine zqr fun K hK => ?_); (simp (disch := omega) only [go_sem, Nat.reduceBEq, ↓reduceIte, reduceCtorEq, Nat.reduceAdd, Nat.reduceMul, Nat.reduceLeDiff, u1, u8, u9, u10, uH2, unx, z0m, z45, Function.comp_apply])) | (refine zqd _ rfl ?_ ?_ <;> intro hc <;> (((try simp only [z06] at hc); (try omega)))) | (refine hK _ ?_; clear hK K))
   (refine Exists.intro _ (And.intro ?_ ⟨i + 1, rfl, ?_⟩)); rotate_left; (simp (disch := omega) only [go_sem, Nat.reduceBEq, u1, u8, u9, u10, uH2, true_and, Int.natCast_add, Int.natCast_one, List.flatMap_append, List.flatMap_cons, List.flatMap_nil, List.map_append, List.map_cons, List.map_nil, List.append_nil, htk, hgd, cellsId]); rotate_left
   ·omega
   ·omega
  ·have hta : L.take i = L := List.take_of_length_le (by omega)
   have hil : i = L.length := by omega
   rw [hta, <- hre] at uH2
   repeat' (first | refine nxt ?_ | ((refine zqh fun K hK => ?_); (simp (disch := omega) only [go_sem, Nat.reduceBEq, ↓reduceIte, u8, u9, u10, unx, z45])) | (refine zqd _ rfl ?_ ?_ <;> intro hc <;> (((try simp only [z06] at hc); (try omega)))) | refine zqz ?_ | refine zqu (by simp only [go_sem]; rfl) rfl ?_ | (refine hK _ ?_; clear hK K))
   refine z8i (nx := 0) ?_
   have hlen : (risL p l).length = L.length := by rw [hre, List.length_map]
   rw [hil, <- hlen]
   rw [hil, <- hlen] at uH2
   exact z1s (f := cellsId) (l := risL p l) 1 uH2 z6p z8y (fun _ => rfl) (fun _ => rfl)
namespace Tr
theorem zia : ∀ t : T, nodesT t = t :: (edT t).map (·.2) := by
 refine z53 fun t ih => ?_
 rw [z15, zgz, List.map_flatMap]
 congr 1
 rw [List.flatMap_def, List.flatMap_def]
 exact congrArg _ (List.map_congr_left fun k O => by rw [ih k O, List.map_cons])
def ztc (A : T) (done : List (T × T)) : List Idv := (done.filter fun e => z16 e.2.id A && !decide (e.2.id ∈ z29 A e.1)).map fun e => e.2.id
theorem outR_le (A : T) (done : List (T × T)) : (ztc A done).length <= done.length := by
 unfold ztc; rw [List.length_map]; exact List.length_filter_le _ _
theorem ztd (A : T) (done : List (T × T)) (e : T × T) : ztc A (done ++ [e]) = if z16 e.2.id A = true /\ e.2.id ∉ z29 A e.1 then ztc A done ++ [e.2.id] else ztc A done := by
 unfold ztc
 rw [List.filter_append, List.map_append]
 by_cases h1 : z16 e.2.id A = true <;> by_cases h2 : e.2.id ∈ z29 A e.1 <;> simp [h1, h2]
theorem kid_ne {A B : T} (ba : z3k A = true) (bb : z3k B = true) {q x : T} (hq : q ∈ nodesT B) (hx : x ∈ q.kids) : ¬ A.id = x.id := by
 rw [(z5l ba).trans (z5l bb).symm]
 exact z6e ((z1g B).1 bb).2.2 hq hx
theorem par_B {B : T} (bb : z3k B = true) {q x : T} (hq : q ∈ nodesT B) (hx : x ∈ q.kids) : (z2w x.id B).1 = q := by
 have nb := ((z1g B).1 bb).2.2
 have hm : x.id ∈ idsT B := List.mem_map.2 ⟨x, z11 B q hq x (z0j hx (z07 x)), rfl⟩
 rw [zig nb (z6e nb hq hx) hm, z4k B nb q hq x hx, z0x nb hq rfl]
theorem par_A {A B : T} (ba : z3k A = true) (bb : z3k B = true) {q x : T} (hq : q ∈ nodesT B) (hx : x ∈ q.kids) (h : z16 x.id A = true) : (z2w x.id A).1 ∈ nodesT A /\ (z2w x.id A).1.id = (z6w x.id A).1 /\ (z2w x.id A).2.2 = (z6w x.id A).2.1 /\ (z6w x.id A).2.2 = true /\ 0 <= (z6w x.id A).2.1 /\ ∃ j : Nat, ∃ hj : j < (z2w x.id A).1.kids.length, (z6w x.id A).2.1 = (j : Int) /\ (z2w x.id A).1.kids[j].id = x.id := by
 have na := ((z1g A).1 ba).2.2
 have h0 := kid_ne ba bb hq hx
 have hm : x.id ∈ idsT A := by rw [z14, decide_eq_true_eq] at h; exact h
 obtain ⟨q2, hq2, k2, hk2, e1, e2⟩ := zdx na hm h0
 obtain ⟨j, hj, rfl⟩ := List.getElem_of_mem hk2
 have hp := ztv na hq2 j hj
 rw [e1] at hp
 have hf : (z2w x.id A).1 = q2 := by rw [zig na h0 hm, e2, z0x na hq2 rfl]
 have hf2 : (z2w x.id A).2.2 = (z6w x.id A).2.1 := by rw [zig na h0 hm]
 rw [hf2, hp]
 refine ⟨hf ▸ hq2, by rw [hf], rfl, rfl, Int.natCast_nonneg _, j, by rw [hf]; exact hj, rfl, ?_⟩
 simp only [hf]
 exact e1
theorem par_O {A x : T} (h : z16 x.id A = false) : z2w x.id A = (T.zero, 0, -1) := by
 refine zke A fun hm => ?_
 have : z16 x.id A = true := by rw [z14, decide_eq_true_eq, z2f]; exact List.mem_cons_of_mem _ hm
 rw [h] at this; cases this
theorem zxj {α : Type} [DecidableEq α] {l : List α} (hn : l.Nodup) {j : Nat} (hj : j < l.length) : l.idxOf l[j] = j := by
 have h1 : l.idxOf l[j] < l.length := List.idxOf_lt_length_iff.2 (List.getElem_mem hj)
 exact (List.getElem_inj (h₀ := h1) hn).1 (List.getElem_idxOf h1)
theorem zxk {A B : T} (ba : z3k A = true) (bb : z3k B = true) {p q : T} (hq : q ∈ nodesT B) (hp : p ∈ nodesT A) (hid : p.id = q.id) :
  (∀ i ∈ (z31 A q).map T.id, i ∈ p.kids.map T.id) /\ risL p ((z31 A q).map T.id) = z29 A q := by
 have na := ((z1g A).1 ba).2.2
 have key : ∀ k ∈ z31 A q, ∃ j : Nat, ∃ hj : j < p.kids.length, (z6w k.id A).2.1 = (j : Int) /\ p.kids[j].id = k.id := by
  intro k O
  obtain ⟨h1, h2⟩ := List.mem_filter.1 O
  simp only [z2s, Bool.and_eq_true, decide_eq_true_eq] at h2
  obtain ⟨_, h3, h4⟩ := h2
  have hh : z16 k.id A = true := by
   cases h : z16 k.id A with
   | true => rfl
   | false =>
    rw [z14, decide_eq_false_iff_not, <- z59] at h
    unfold z6w at h3
    simp [h] at h3
  obtain ⟨g1, g2, g3, g4, g5, j, hj, g6, g7⟩ := par_A ba bb hq h1 hh
  have : (z2w k.id A).1 = p := by
   have f1 := z0x na g1 rfl
   rw [g2, h4, <- hid, z0x na hp rfl] at f1
   simp only [Prod.mk.injEq, and_true] at f1
   exact f1.symm
  subst this
  exact ⟨j, hj, g6, g7⟩
 have hpl : zf3 p ((z31 A q).map T.id) = zaq A q := by
  unfold zf3 zaq
  rw [List.map_map]
  refine List.map_congr_left fun k O => ?_
  obtain ⟨j, hj, h1, h2⟩ := key k O
  rw [h1]
  have h3 : (p.kids.map T.id)[j]'(by rw [List.length_map]; exact hj) = k.id := by simpa using h2
  have := zxj (z2r na hp) (j := j) (by rw [List.length_map]; exact hj)
  rw [h3] at this
  simp only [Function.comp_apply, this]
 refine ⟨fun i hi => ?_, ?_⟩
 ·obtain ⟨k, O, rfl⟩ := List.mem_map.1 hi
  obtain ⟨j, hj, _, h2⟩ := key k O
  rw [<- h2]
  exact List.mem_map.2 ⟨_, List.getElem_mem hj, rfl⟩
 ·unfold risL z29
  rw [hpl]
def zgd (A u : T) (i : Nat) : List T := (u.kids.take i).filter (z2s A u)
theorem zq3 {A u : T} {i : Nat} (h : i < u.kids.length) : zgd A u (i + 1) = zgd A u i ++ if z2s A u u.kids[i] = true then [u.kids[i]] else [] := by
 unfold zgd
 rw [List.take_succ_eq_append_getElem h, List.filter_append]
 congr 1
 split <;> simp_all
theorem zxl (A u : T) (i : Nat) : (zgd A u i).length <= i := by
 unfold zgd
 refine Nat.le_trans (List.length_filter_le _ _) ?_
 rw [List.length_take]; omega
theorem zk6 (A u : T) : zgd A u u.kids.length = z31 A u := by unfold zgd z31; rw [List.take_length]
end Tr
set_option maxHeartbeats 32000000 in
theorem zq4 (A B : T) (fa : Fit50 A) (fb : Fit50 B) (hcm : zdr A B = true) : PC prog 11 [z1o A, z1o B] (z0m (zga A B)) := by
 obtain ⟨ba, bb, _⟩ := (zmg A B).1 hcm
 have na := ((z1g A).1 ba).2.2
 have nb := ((z1g B).1 bb).2.2
 have hcb := fb.cnt
 have hda := fa.dep
 have hdb := fb.dep
 have hne : (nodesT B).length = (edT B).length + 1 := by rw [zia, List.length_cons, List.length_map]
 have hel : (edT B).length + 1 <= 1000000 := by rw [<- hne]; exact hcb
 have c1 := ztb B fb.sz (by omega)
 refine z3q 3 (by simp only [pureD.pureL, z0h, Bool.and_self]) (z3w _) (z30 [20, 61, 3000070, 3000072, 3000074, 3000076, 5000077] func11 rfl (by decide +kernel) rfl ?_)
 show awp _ _ (Code.seq _ _) _ _
 repeat' (first | refine nxt ?_ | ((first | refine zqh fun K hK => ?_ | refine zqs (c1) ?_); (simp (disch := omega) only [go_sem, Nat.reduceBEq, ↓reduceIte, reduceCtorEq, Nat.reduceAdd, Nat.reduceMul, Nat.reduceLeDiff])) | (refine hK _ ?_; clear hK K))
 (refine z6x (fun U st => ∃ (i : Nat), U = (edT B).length - i /\ st.t 2 = .ptr 0 0 /\ st.t 3 = .ptr 1 0 /\ st.t 5 = .osl 2 (ztc A ((edT B).take i)).length /\ st.t 6 = z0l (nodesT B) /\ st.t 7 = .int .i64 ((i + 1 : Nat) : Int) /\ st.H (0) = some (.box 27 (z04 A)) /\ st.H (1) = some (.box 27 (z04 B)) /\ st.H (2) = some (.row 23 (ztc A ((edT B).take i)).length ((ztc A ((edT B).take i)).flatMap cellsId)) /\ (i <= (edT B).length) /\ (3 <= st.nx)) ?_ ?_); rotate_left; (rintro U st ⟨i, rfl, v2, v3, v5, v6, v7, vH0, vH1, vH2, vp0, vp1⟩); rotate_left
 ·(refine ⟨_, 0, rfl, ?_⟩); (simp (disch := omega) only [go_sem, Nat.reduceBEq, Nat.reduceLeDiff, true_and, and_true, and_self, Int.natCast_one, z0l])
  exact ⟨rfl, rfl⟩
 obtain ⟨m, hm⟩ : ∃ m, st.nx = m := ⟨_, rfl⟩
 rw [hm] at vp1
 have e0 := z01 (show 0 < m by omega)
 have e1 := z01 (show 1 < m by omega)
 have e2 := z01 (show 2 < m by omega)
 by_cases hi : i < (edT B).length
 rotate_left
 ·repeat' (first | refine nxt ?_ | ((refine zqh fun K hK => ?_); (simp (disch := omega) only [go_sem, Nat.reduceBEq, ↓reduceIte, v5, v6, v7, hm, z0l, hne])) | (refine zqd _ rfl ?_ ?_ <;> intro hc <;> (((try simp only [z06] at hc); (try omega)))) | refine zqz ?_ | refine zqu (by simp only [go_sem]; rfl) rfl ?_ | (refine hK _ ?_; clear hK K))
  have hta : (edT B).take i = edT B := List.take_of_length_le (by omega)
  have hout : ztc A (edT B) = zga A B := rfl
  rw [hta, hout] at vH2
  rw [hta, hout]
  refine z8i (nx := 0) (z1s (f := cellsId) (l := zga A B) 1 vH2 z6p z8y (fun _ => rfl) (fun _ => rfl))
 obtain ⟨e, hee⟩ : ∃ e, (edT B)[i] = e := ⟨_, rfl⟩
 have hmem : e ∈ edT B := by rw [<- hee]; exact List.getElem_mem hi
 obtain ⟨hq, hx⟩ := (ztw B e).1 hmem
 have hxB : e.2 ∈ nodesT B := z11 B _ hq _ (z0j hx (z07 _))
 have hxn : (nodesT B)[i + 1]'(by omega) = e.2 := by simp only [zia, List.getElem_cons_succ, List.getElem_map, hee]
 have htk : (edT B).take (i + 1) = (edT B).take i ++ [e] := by rw [List.take_succ_eq_append_getElem hi, hee]
 have hsn := ztd A ((edT B).take i) e
 rw [<- htk] at hsn
 have hle := outR_le A ((edT B).take i)
 rw [List.length_take] at hle
 have hi1 : i + 1 < (nodesT B).length := by omega
 have c2 := zzu A e.2.id fa
 have c3 := z9v e.2.id A fa.sz (by omega)
 have c4 := z9v e.2.id B fb.sz (by omega)
 rw [par_B bb hq hx] at c4
 cases hA : z16 e.2.id A
 ·rw [hA] at c2
  rw [hA, if_neg (by simp)] at hsn
  repeat' (first | refine nxt ?_ | ((first | refine zqh fun K hK => ?_ | refine zqr fun K hK => ?_ | refine zqs (c2) ?_); (simp (disch := omega) only [go_sem, Nat.reduceBEq, ↓reduceIte, reduceCtorEq, Nat.reduceAdd, Nat.reduceLeDiff, v2, v6, v7, vH0, hm, e0, z0l, hxn])) | (refine zqd _ rfl ?_ ?_ <;> intro hc <;> (first | (cases hc; done) | ((try simp only [z06] at hc); (try omega)))) | refine zqz ?_ | (refine hK _ ?_; clear hK K))
  (refine Exists.intro _ (And.intro ?_ ⟨i + 1, rfl, ?_⟩)); rotate_left; (simp (disch := omega) only [go_sem, Nat.reduceBEq, Nat.reduceLeDiff, v2, v3, v5, v6, v7, vH0, vH1, vH2, true_and, Int.natCast_add, Int.natCast_one, e0, e1, e2, hsn]); rotate_left
  ·omega
  ·omega
 rw [hA] at c2
 obtain ⟨p1, p2, p3, p4, p5, j, hj, p6, p7⟩ := par_A ba bb hq hx hA
 obtain ⟨p, hp⟩ : ∃ p, (z2w e.2.id A).1 = p := ⟨_, rfl⟩
 rw [hp] at c3 p1 p2
 by_cases hid : p.id = e.1.id
 rotate_left
 ·have hns : e.2.id ∉ z29 A e.1 := fun h => by
   obtain ⟨k', hk', e5, hu⟩ := z73 h
   simp only [z2s, Bool.and_eq_true, decide_eq_true_eq] at hu
   rw [e5] at hu
   exact hid (p2.trans hu.2.2)
  rw [if_pos ⟨hA, hns⟩] at hsn
  repeat' (first | refine nxt ?_ | ((first | refine zqh fun K hK => ?_ | refine zqr fun K hK => ?_ | refine zqs (c2) ?_ | refine zqs (c3) ?_ | refine zqs (c4) ?_); (simp (disch := omega) only [go_sem, Nat.reduceBEq, ↓reduceIte, reduceCtorEq, Nat.reduceAdd, Nat.reduceMul, Nat.reduceLeDiff, v2, v3, v5, v6, v7, vH0, vH1, vH2, hm, e0, e1, e2, z0l, hxn, hid])) | (refine zqd _ rfl ?_ ?_ <;> intro hc <;> (first | (cases hc; done) | ((try simp only [z06] at hc); (try omega)))) | refine zqz ?_ | (refine hK _ ?_; clear hK K))
  (refine Exists.intro _ (And.intro ?_ ⟨i + 1, rfl, ?_⟩)); rotate_left; (simp (disch := omega) only [go_sem, Nat.reduceBEq, Nat.reduceLeDiff, v2, v3, v5, v6, v7, vH0, vH1, vH2, true_and, and_true, Int.natCast_add, Int.natCast_one, List.flatMap_append, List.flatMap_cons, List.flatMap_nil, List.append_nil, e0, e1, e2, hsn, cellsId, List.length_append, List.length_cons, List.length_nil]); rotate_left
  ·omega
  ·omega
 repeat' (first | refine nxt ?_ | ((first | refine zqh fun K hK => ?_ | refine zqs (c2) ?_ | refine zqs (c3) ?_ | refine zqs (c4) ?_); (simp (disch := omega) only [go_sem, Nat.reduceBEq, ↓reduceIte, reduceCtorEq, Nat.reduceAdd, Nat.reduceMul, Nat.reduceLeDiff, v2, v3, v6, v7, vH0, vH1, hm, e0, e1, z0l, hxn, hid])) | (refine zqd _ rfl ?_ ?_ <;> intro hc <;> (first | (cases hc; done) | ((try simp only [z06] at hc); (try omega)))) | (refine hK _ ?_; clear hK K))
 have hqz := zal B fb.sz _ hq
 obtain ⟨q0, q1, q2, q3, q4, q5, q6⟩ := (z3o e.1).1 hqz
 obtain ⟨R, hR⟩ : ∃ R, R = ztc A ((edT B).take i) := ⟨_, rfl⟩
 have hRl : R.length <= 1000000 := by rw [hR]; omega
 (refine z6x (fun U st => ∃ (k : Nat), U = e.1.kids.length - k /\ st.t 2 = .ptr 0 0 /\ st.t 3 = .ptr 1 0 /\ st.t 5 = .osl 2 R.length /\ st.t 6 = z0l (nodesT B) /\ st.t 7 = .int .i64 ((i + 1 : Nat) : Int) /\ st.t 8 = .ptr m 0 /\ st.t 9 = .ptr (m + 1) 0 /\ st.t 12 = .ptr (m + 2) 0 /\ st.t 15 = .osl (m + 3) (zgd A e.1 k).length /\ st.t 16 = .int .i64 k /\ st.H (0) = some (.box 27 (z04 A)) /\ st.H (1) = some (.box 27 (z04 B)) /\ st.H (2) = some (.row 23 R.length (R.flatMap cellsId)) /\ st.H (m) = some (.box 23 (cellsId e.2.id)) /\ st.H (m + 1) = some (.box 27 (z04 p)) /\ st.H (m + 2) = some (.box 27 (z04 e.1)) /\ st.H (m + 3) = some (.row 23 (zgd A e.1 k).length (((zgd A e.1 k).map T.id).flatMap cellsId)) /\ (k <= e.1.kids.length) /\ (m + 4 <= st.nx)) ?_ ?_); rotate_left; (rintro U st ⟨k, rfl, w2, w3, w5, w6, w7, w8, w9, w12, w15, w16, wH0, wH1, wH2, wHm, wHm1, wHm2, wHm3, wp0, wp1⟩); rotate_left
 ·(refine ⟨_, 0, rfl, ?_⟩); (simp (disch := omega) only [go_sem, Nat.reduceBEq, Nat.reduceLeDiff, v2, v3, v5, v6, v7, vH0, vH1, vH2, true_and, Int.natCast_add, Int.natCast_one, Int.natCast_zero, e0, e1, e2, hR])
  exact ⟨rfl, rfl, rfl, Nat.le_refl _⟩
 have f0 := z01 (show 0 < st.nx by omega)
 have f1 := z01 (show 1 < st.nx by omega)
 have f2 := z01 (show 2 < st.nx by omega)
 have f3 := z01 (show m < st.nx by omega)
 have f4 := z01 (show m + 1 < st.nx by omega)
 have f5 := z01 (show m + 2 < st.nx by omega)
 have f6 := z01 (show m + 3 < st.nx by omega)
 have hbl := zxl A e.1 k
 by_cases O : k < e.1.kids.length
 ·have hkq := List.getElem_mem O
  have hsb := zq3 (A := A) O
  have c5 := z9v e.1.kids[k].id A fa.sz (by omega)
  cases hkA : z16 e.1.kids[k].id A
  ·have hun : z2s A e.1 e.1.kids[k] = false := by
    unfold z2s
    have : (z6w e.1.kids[k].id A).2.2 = false := by
     have h := hkA
     rw [z14, decide_eq_false_iff_not, <- z59] at h
     unfold z6w
     simp [h]
    rw [this]; simp
   rw [hun, if_neg (by decide), List.append_nil] at hsb
   rw [par_O hkA] at c5
   repeat' (first | refine nxt ?_ | ((first | refine zqh fun K hK => ?_ | refine zqe (by decide +kernel) fun K hK => ?_ | refine zqr fun K hK => ?_ | refine zqt (c5) ?_); (simp (disch := omega) only [go_sem, Nat.reduceBEq, Nat.reduceEqDiff, ↓reduceIte, reduceCtorEq, Nat.reduceAdd, Nat.reduceLeDiff, Int.reduceLE, w2, w12, w16, wH0, wHm2, z0l])) | ((first | refine zqd _ rfl (fun hc => ?_) (fun hc => ?_) | refine zqm _ rfl (fun hc => ?_) (fun hc => ?_)) <;> (first | (cases hc; done) | ((try simp only [z06] at hc); (try omega)))) | (refine hK _ ?_; clear hK K))
   (refine Exists.intro _ (And.intro ?_ ⟨k + 1, rfl, ?_⟩)); rotate_left; (simp (disch := omega) only [go_sem, Nat.reduceBEq, Nat.reduceLeDiff, w2, w3, w5, w6, w7, w8, w9, w12, w15, w16, wH0, wH1, wH2, wHm, wHm1, wHm2, wHm3, true_and, Int.natCast_add, Int.natCast_one, f0, f1, f2, f3, f4, f5, f6, hsb]); rotate_left
   ·omega
   ·omega
  ·obtain ⟨r1, r2, r3, r4, r5, j2, hj2, r6, r7⟩ := par_A ba bb hq hkq hkA
   rw [r3] at c5
   obtain ⟨z, hz⟩ : ∃ z, (z2w e.1.kids[k].id A).1 = z := ⟨_, rfl⟩
   rw [hz] at c5 r2
   have hqA : z16 e.1.id A = true := by rw [z14, decide_eq_true_eq, <- hid]; exact List.mem_map.2 ⟨p, p1, rfl⟩
   by_cases hzq : z.id = e.1.id
   ·have hun : z2s A e.1 e.1.kids[k] = true := by unfold z2s; rw [hqA, r4, <- r2, hzq]; simp
    rw [hun, if_pos rfl] at hsb
    repeat' (first | refine nxt ?_ | ((first | refine zqh fun K hK => ?_ | refine zqe (by decide +kernel) fun K hK => ?_ | refine zqr fun K hK => ?_ | refine zqt (c5) ?_); (simp (disch := omega) only [go_sem, Nat.reduceBEq, Nat.reduceEqDiff, ↓reduceIte, reduceCtorEq, Nat.reduceAdd, Nat.reduceMul, Nat.reduceLeDiff, w2, w12, w15, w16, wH0, wHm2, wHm3, f5, f6, z0l, hzq, r5])) | ((first | refine zqd _ rfl (fun hc => ?_) (fun hc => ?_) | refine zqm _ rfl (fun hc => ?_) (fun hc => ?_)) <;> (first | (cases hc; done) | ((try simp only [z06] at hc); (try omega)))) | (refine hK _ ?_; clear hK K))
    (refine Exists.intro _ (And.intro ?_ ⟨k + 1, rfl, ?_⟩)); rotate_left; (simp (disch := omega) only [go_sem, Nat.reduceBEq, Nat.reduceLeDiff, w2, w3, w5, w6, w7, w8, w9, w12, w15, w16, wH0, wH1, wH2, wHm, wHm1, wHm2, wHm3, true_and, Int.natCast_add, Int.natCast_one, List.flatMap_append, List.flatMap_cons, List.flatMap_nil, List.map_append, List.map_cons, List.map_nil, List.append_nil, e0, e1, e2, f0, f1, f2, f3, f4, f5, f6, hsb, cellsId, List.length_append, List.length_cons, List.length_nil]); rotate_left
    ·omega
    ·omega
   ·have hun : z2s A e.1 e.1.kids[k] = false := by unfold z2s; rw [<- r2]; simp [hzq]
    rw [hun, if_neg (by decide), List.append_nil] at hsb
    repeat' (first | refine nxt ?_ | ((first | refine zqh fun K hK => ?_ | refine zqe (by decide +kernel) fun K hK => ?_ | refine zqr fun K hK => ?_ | refine zqt (c5) ?_); (simp (disch := omega) only [go_sem, Nat.reduceBEq, Nat.reduceEqDiff, ↓reduceIte, reduceCtorEq, Nat.reduceAdd, Nat.reduceLeDiff, w2, w12, w16, wH0, wHm2, f5, z0l, hzq, r5])) | ((first | refine zqd _ rfl (fun hc => ?_) (fun hc => ?_) | refine zqm _ rfl (fun hc => ?_) (fun hc => ?_)) <;> (first | (cases hc; done) | ((try simp only [z06] at hc); (try omega)))) | (refine hK _ ?_; clear hK K))
    (refine Exists.intro _ (And.intro ?_ ⟨k + 1, rfl, ?_⟩)); rotate_left; (simp (disch := omega) only [go_sem, Nat.reduceBEq, Nat.reduceLeDiff, w2, w3, w5, w6, w7, w8, w9, w12, w15, w16, wH0, wH1, wH2, wHm, wHm1, wHm2, wHm3, true_and, Int.natCast_add, Int.natCast_one, f0, f1, f2, f3, f4, f5, f6, hsb]); rotate_left
    ·omega
    ·omega
 ·have hkk : k = e.1.kids.length := by omega
  subst hkk
  rw [zk6] at w15 wHm3
  have hbl2 : (z31 A e.1).length <= 1000000 := by rw [<- zk6]; omega
  obtain ⟨g1, g2⟩ := zxk ba bb hq p1 hid
  have c6 := ztu p ((z31 A e.1).map T.id) (zal A fa.sz _ p1) (by rw [List.length_map]; exact hbl2) (z2r na p1) g1
  rw [g2] at c6
  have hsl : (z29 A e.1).length <= 1000000 := by have h5 := (zdy (A := A) e.1).length_le; rw [List.length_map] at h5; omega
  have c7 := pc_in49 (z29 A e.1) e.2.id hsl
  have hl2 : D.rsl false (z00 prog 23) (z1h (z03 prog 23) (z00 prog 23) (z31 A e.1).length (((z31 A e.1).map T.id).flatMap cellsId)) = z0m ((z31 A e.1).map T.id) := by
   have := z4j (f := cellsId) (sz := 3) (fun _ => rfl) ((z31 A e.1).map T.id)
   rw [List.length_map] at this
   rw [z6p, z8y, this]; rfl
  repeat' (first | refine nxt ?_ | ((refine zqh fun K hK => ?_); (simp (disch := omega) only [go_sem, Nat.reduceBEq, ↓reduceIte, reduceCtorEq, Nat.reduceAdd, w12, w16, wHm2, z0l])) | (refine zqd _ rfl ?_ ?_ <;> intro hc <;> (((try simp only [z06] at hc); (try omega)))) | (refine hK _ ?_; clear hK K))
  refine zqz (zk7 _ (zkp (id := m + 3) (j := 15) (e := 23) (n := (z31 A e.1).length) (cs := ((z31 A e.1).map T.id).flatMap cellsId) (by (simp (disch := omega) only [go_sem, wHm3])) (by decide +kernel) (z12 (fun _ => rfl) _) (by (simp (disch := omega) only [go_sem, Nat.reduceBEq, w15]))) ?_)
  rw [hl2]
  by_cases hs : e.2.id ∈ z29 A e.1
  ·rw [if_neg (fun h => h.2 hs)] at hsn
   rw [<- hR] at hsn
   rw [decide_eq_true hs] at c7
   repeat' (first | ((first | refine zqe (by decide +kernel) fun K hK => ?_ | refine zqr fun K hK => ?_ | refine zqt (c6) ?_ | refine zqt (c7) ?_); (simp (disch := omega) only [go_sem, Nat.reduceBEq, Nat.reduceEqDiff, ↓reduceIte, Nat.reduceAdd, Nat.reduceLeDiff, w7, w8, w9, w15, wHm, wHm1, e0, cellsId])) | ((refine zqm _ rfl (fun hc => ?_) (fun hc => ?_)) <;> (first | (cases hc; done) | ((try simp only [] at hc); (try omega)))) | refine nxt ?_ | (refine hK _ ?_; clear hK K))
   (refine Exists.intro _ (And.intro ?_ ⟨i + 1, rfl, ?_⟩)); rotate_left; (simp (disch := omega) only [go_sem, Nat.reduceBEq, w2, w3, w5, w6, w7, wH0, wH1, wH2, true_and, Int.natCast_add, Int.natCast_one, e0, e1, e2, hsn]); rotate_left
   ·omega
   ·exact ⟨by omega, by omega⟩
  ·rw [if_pos ⟨hA, hs⟩] at hsn
   rw [<- hR] at hsn
   rw [decide_eq_false hs] at c7
   repeat' (first | ((first | refine zqe (by decide +kernel) fun K hK => ?_ | refine zqr fun K hK => ?_ | refine zqt (c6) ?_ | refine zqt (c7) ?_); (simp (disch := omega) only [go_sem, Nat.reduceBEq, Nat.reduceEqDiff, ↓reduceIte, reduceCtorEq, Nat.reduceAdd, Nat.reduceMul, Nat.reduceLeDiff, w5, w7, w8, w9, w15, wH2, wHm, wHm1, e0, e2, cellsId])) | ((refine zqm _ rfl (fun hc => ?_) (fun hc => ?_)) <;> (first | (cases hc; done) | ((try simp only [] at hc); (try omega)))) | refine nxt ?_ | (refine hK _ ?_; clear hK K))
   (refine Exists.intro _ (And.intro ?_ ⟨i + 1, rfl, ?_⟩)); rotate_left; (simp (disch := omega) only [go_sem, Nat.reduceBEq, w2, w3, w5, w6, w7, wH0, wH1, wH2, true_and, Int.natCast_add, Int.natCast_one, List.flatMap_append, List.flatMap_cons, List.flatMap_nil, List.append_nil, e0, e1, e2, hsn, cellsId, List.length_append, List.length_cons, List.length_nil]); rotate_left
   ·omega
   ·exact ⟨by omega, by omega⟩
theorem zs9 {A B : T} (nb : (idsT B).Nodup) : (zga A B).Nodup := by
 have e : idsT B = B.id :: (edT B).map fun e => e.2.id := by
  unfold idsT
  rw [zia, List.map_cons, List.map_map]; rfl
 rw [e, List.nodup_cons] at nb
 unfold zga
 exact nb.2.sublist ((List.filter_sublist).map _)
theorem zwb {t : T} {most : Int} (h0 : 0 <= most) (h1 : most <= 1000) (h : zsd t most = true) : Fit50 t := by
 obtain ⟨a, b, c⟩ := few_sz h0 h1 h
 exact ⟨a, by omega, by omega⟩
def z68 (l : List Idv) : List (Idv × Int) := l.map fun x => (x, -1)
theorem zly (l : List Idv) {i : Nat} (h : i < l.length) : z68 (l.take (i + 1)) = z68 (l.take i) ++ [(l[i], -1)] := by
 rw [List.take_succ_eq_append_getElem h]; unfold z68; rw [List.map_append]; rfl
theorem zpj (l : List Idv) (i : Nat) : (z68 (l.take i)).length <= l.length := by
 unfold z68; rw [List.length_map, List.length_take]; omega
theorem zbr {l : List Idv} : ∀ p ∈ z68 l, p.2 = 1 \/ p.2 = -1 := fun p hp => by
 obtain ⟨x, _, rfl⟩ := List.mem_map.1 hp
 exact .inr rfl
theorem zzw (x : TT) : ∀ p ∈ zdn x, p.2 = 1 \/ p.2 = -1 := fun p hp => by
 unfold zdn at hp
 obtain ⟨y, _, rfl⟩ := List.mem_map.1 hp
 exact .inl rfl
theorem zg9 {a b : List (Idv × Int)} (ha : ∀ p ∈ a, p.2 = 1 \/ p.2 = -1) (hb : ∀ p ∈ b, p.2 = 1 \/ p.2 = -1) : ∀ p ∈ a ++ b, p.2 = 1 \/ p.2 = -1 := fun p hp => (List.mem_append.1 hp).elim (ha p) (hb p)
set_option maxHeartbeats 16000000 in
theorem znr (a b : T) (hfa : zh4 a = true) (hfb : zh4 b = true) : PC prog 3 [z1o a, z1o b] (.bool true) := by
 have c1 := zr4
 have c2 := zye a b hfa hfb
 refine z3q 1 (by simp only [pureD.pureL, z0h, Bool.and_self]) rfl ?_
 refine z75 func3 rfl (by decide +kernel) (by simp [ntmps3]) ?_
 refine Sem.seq (Sem.walk (own := []) z1v (by decide +kernel) ?_)
 repeat' (first | ((refine zqr fun K hK => ?_); (simp (disch := omega) only [go_sem, Nat.reduceBEq, Nat.reduceAdd])) | (refine hK _ ?_; clear hK K))
 refine Sem.seq (Sem.walk (own := []) z1v (by decide +kernel) ?_)
 repeat' (first | ((first | refine zqh fun K hK => ?_ | refine zqs (c1) ?_); (simp (disch := omega) only [go_sem, Nat.reduceBEq])) | ((refine zqm _ rfl (fun hc => ?_) (fun hc => ?_)) <;> (first | (cases hc; done) | ((try simp only [] at hc); (try omega)))) | refine zqk ?_ | (refine hK _ ?_; clear hK K))
 refine Sem.seq (Sem.walk (own := []) z1v (by decide +kernel) ?_)
 cases h : zsd a 30 && zsd b 30
 ·rw [h] at c2
  repeat' (first | ((first | refine zqh fun K hK => ?_ | refine zqs (c2) ?_); (simp (disch := omega) only [go_sem, Nat.reduceBEq, ↓reduceIte, Nat.reduceAdd, Nat.reduceLeDiff])) | ((refine zqm _ rfl (fun hc => ?_) (fun hc => ?_)) <;> (first | (cases hc; done) | ((try simp only [] at hc); (try omega)))) | refine zqn ?_ | refine zqx ?_ | refine zqu (by simp only [go_sem]; rfl) rfl ?_ | (refine hK _ ?_; clear hK K))
  exact z05 rfl
 rw [h] at c2
 rw [Bool.and_eq_true] at h
 have fa := zwb (by omega) (by omega) h.1
 have fb := zwb (by omega) (by omega) h.2
 repeat' (first | ((first | refine zqh fun K hK => ?_ | refine zqs (c2) ?_); (simp (disch := omega) only [go_sem, Nat.reduceBEq, ↓reduceIte, Nat.reduceAdd, Nat.reduceLeDiff])) | ((refine zqm _ rfl (fun hc => ?_) (fun hc => ?_)) <;> (first | (cases hc; done) | ((try simp only [] at hc); (try omega)))) | refine zqk ?_ | (refine hK _ ?_; clear hK K))
 refine Sem.seq (Sem.walk (own := []) z1v (by decide +kernel) ?_)
 have c3 := zmn a b fa fb
 cases hcm : zdr a b
 ·rw [show zdj a b = (TT.zero, 1) by unfold zdj; rw [if_neg (by rw [hcm]; decide)]] at c3
  repeat' (first | ((first | refine zqr fun K hK => ?_ | refine zqs (c3) ?_); (simp (disch := omega) only [go_sem, Nat.reduceBEq, ↓reduceIte, Nat.reduceAdd, Nat.reduceLeDiff])) | (refine hK _ ?_; clear hK K))
  refine Sem.seq (Sem.walk (own := []) z1v (by decide +kernel) ?_)
  repeat' (first | ((refine zqh fun K hK => ?_); (simp (disch := omega) only [go_sem, Nat.reduceBEq, ↓reduceIte, Int.reduceEq])) | ((refine zqm _ rfl (fun hc => ?_) (fun hc => ?_)) <;> (first | (cases hc; done) | ((try simp only [] at hc); (try omega)))) | refine zqn ?_ | refine zqx ?_ | refine zqu (by simp only [go_sem]; rfl) rfl ?_ | (refine hK _ ?_; clear hK K))
  exact z05 rfl
 rw [show zdj a b = (zbx a b, 0) by unfold zdj; rw [if_pos hcm]] at c3
 repeat' (first | ((first | refine zqr fun K hK => ?_ | refine zqs (c3) ?_); (simp (disch := omega) only [go_sem, Nat.reduceBEq, ↓reduceIte, Nat.reduceAdd, Nat.reduceLeDiff])) | (refine hK _ ?_; clear hK K))
 refine Sem.seq (Sem.walk (own := []) z1v (by decide +kernel) ?_)
 repeat' (first | ((refine zqh fun K hK => ?_); (simp (disch := omega) only [go_sem, Nat.reduceBEq, ↓reduceIte])) | ((refine zqm _ rfl (fun hc => ?_) (fun hc => ?_)) <;> (first | (cases hc; done) | ((try simp only [] at hc); (try omega)))) | refine zqk ?_ | (refine hK _ ?_; clear hK K))
 refine Sem.seq (Sem.walk (own := []) z1v (by decide +kernel) ?_)
 repeat' (first | ((refine zqr fun K hK => ?_); (simp (disch := omega) only [go_sem, Nat.reduceBEq, Nat.reduceAdd])) | (refine hK _ ?_; clear hK K))
 refine Sem.seq (Sem.walk (own := []) z1v (by decide +kernel) ?_)
 have hb := zk1 hcm
 have hin := zx7 hb
 have cca := fa.cnt
 have ccb := fb.cnt
 have c4 := tc_walk 3 (zbx a b) (diff_sz fa.sz fb.sz) (diff_ok a b) [] (fun _ h => by cases h) (by simp only [List.length_nil]; omega)
 rw [List.nil_append] at c4
 have hm0 : (.map [] : HObj) = .map (zc4 []) := rfl
 repeat' (first | ((first | refine zqh fun K hK => ?_ | ((refine zbm (c4) ?_ ?_ ?_); (focus ((simp (disch := omega) only [go_sem, Nat.reduceBEq]); done)); (focus (((simp (disch := omega) only [go_sem, Nat.reduceLT]); done))))); (simp (disch := omega) only [go_sem, Nat.reduceBEq, ↓reduceIte, Nat.reduceAdd, Nat.reduceLeDiff, hm0])) | ((refine zqm _ rfl (fun hc => ?_) (fun hc => ?_)) <;> (first | (cases hc; done) | ((try simp only [] at hc); (try omega)))) | refine zqk ?_ | (refine hK _ ?_; clear hK K))
 refine Sem.seq (Sem.walk (own := [3000037, 5000038, 3000039, 5000040]) z1v (by decide +kernel) ?_)
 have c5 := pc_All a fa.sz (by omega)
 have c6 := pc_All b fb.sz (by omega)
 repeat' (first | ((first | refine zqq (by decide +kernel) fun K hK => ?_ | refine zqt (c5) ?_ | refine zqt (c6) ?_); (simp (disch := omega) only [go_sem, Nat.reduceBEq, Nat.reduceEqDiff, ↓reduceIte, Nat.reduceAdd, Nat.reduceLeDiff])) | (refine hK _ ?_; clear hK K))
 refine Sem.seq (Sem.walk (own := []) z1v (by decide +kernel) ?_)
 have c7 := zq4 a b fa fb hcm
 repeat' (first | ((first | refine zqr fun K hK => ?_ | refine zqs (c7) ?_); (simp (disch := omega) only [go_sem, Nat.reduceBEq, ↓reduceIte, Nat.reduceAdd, Nat.reduceLeDiff])) | (refine hK _ ?_; clear hK K))
 clear c1 c2 c3 c4 c5 c6 c7
 obtain ⟨P, hP⟩ : ∃ P, P = idsT a := ⟨_, rfl⟩
 obtain ⟨R, hR⟩ : ∃ R, R = idsT b := ⟨_, rfl⟩
 obtain ⟨M, hM⟩ : ∃ M, M = zga a b := ⟨_, rfl⟩
 obtain ⟨h0, hh0⟩ : ∃ h0, h0 = zdn (zbx a b) := ⟨_, rfl⟩
 have o0 : ∀ p ∈ h0, p.2 = 1 \/ p.2 = -1 := by rw [hh0]; exact zzw _
 have lP : P.length <= 1000000 := by rw [hP, zb9]; omega
 have lR : R.length <= 1000000 := by rw [hR, zb9]; omega
 have lM : M.length <= 1000000 := by rw [hM, <- zi4]; have h1 := zmd a (edT b); have h2 := zss b; omega
 have l0 : h0.length <= 3000000 := by rw [hh0]; omega
 rw [<- hP, <- hR, <- hM, <- hh0]

 refine zqv (Sem.seq (Sem.seq (Sem.walk (own := []) z1v (by decide +kernel) ?_)))
 repeat' (first | ((refine zqr fun K hK => ?_); (simp (disch := omega) only [go_sem])) | (refine hK _ ?_; clear hK K))
 refine Sem.block (Sem.loop (fun n st => ∃ i : Nat, n = P.length - i /\ i <= P.length /\ 4 <= st.nx /\ st.t 2 = .ptr 0 0 /\ st.t 3 = .ptr 1 0 /\ st.t 7 = .mp 3 /\ st.t 8 = z0m P /\ st.t 9 = z0m R /\ st.t 10 = z0m M /\ st.t 11 = .int .i64 i /\ st.H 0 = some (.box 27 (z04 a)) /\ st.H 3 = some (.map (zc4 (h0 ++ z68 (P.take i))))) ?_ ?_)
 ·refine ⟨_, 0, rfl, ?_⟩
  (simp (disch := omega) only [go_sem, Nat.reduceBEq, Nat.reduceLeDiff, true_and, List.take_zero])
  exact ⟨rfl, by rw [show z68 [] = [] from rfl, List.append_nil]⟩
 rintro n st ⟨i, rfl, hi0, g0, g2, g3, g7, g8, g9, g10, g11, gH0, gH3⟩
 have s3 := z01 (show 3 < st.nx by omega)
 have s0 := z01 (show 0 < st.nx by omega)
 refine Sem.seq (Sem.walk (own := []) z1v (by decide +kernel) ?_)
 by_cases hi : i < P.length
 ·have hsn := zly P hi
  have hone : ∀ p ∈ h0 ++ z68 (P.take i), p.2 = 1 \/ p.2 = -1 := zg9 o0 zbr
  have hcb := z92 P[i] hone
  have hln := zpj P i
  simp only [List.length_append] at hcb
  have hw : IntKind.i64.wrap (z8a (h0 ++ z68 (P.take i)) P[i] - 1) = z8a (h0 ++ z68 (P.take i)) P[i] + -1 := by rw [z28 (by omega)]; omega
  repeat' (first | ((refine zqh fun K hK => ?_); (simp (disch := omega) only [go_sem, Nat.reduceBEq, ↓reduceIte, g8, g11, z0m])) | ((refine zqm _ rfl (fun hc => ?_) (fun hc => ?_)) <;> (((try simp only [z06] at hc); (try omega)))) | refine zqk ?_ | (refine hK _ ?_; clear hK K))
  refine zqv (Sem.seq (Sem.block (zat (own := []) (z := .int .i64 0) z1v (by decide +kernel) [0, 1, 2, 3, 4] (T := 37) (m := 50) (k := 54) (tL := 55) (tB := 56) (tE := 57) (tX := 58) (c := .int .i64 1) (bop := .sub) (bt := 3) (bu := 3) (iL := 5) (iB := 6) (iE := 7) (iX := 8) (iS := 9)
   ⟨⟨_, rfl, rfl, rfl, rfl⟩, ⟨_, rfl, rfl, rfl, rfl⟩, ⟨_, rfl, rfl, rfl, rfl⟩, ⟨_, rfl, rfl, rfl, rfl⟩, ⟨_, rfl, rfl, rfl, rfl⟩, by decide +kernel, by decide +kernel, by decide, by decide, by decide⟩ (by decide +kernel) zlt zp9 zpa ?_)))
  refine z37 ?_ rfl
  (simp (disch := omega) only [go_sem, Nat.reduceBEq, ↓reduceIte, reduceCtorEq, Nat.reduceAdd, z6y, zm0, List.map_cons, List.map_nil, g7, g8, g11, z0m])
  refine ⟨3, zc4 (h0 ++ z68 (P.take i)), z3a P[i], .int .i64 (z8a (h0 ++ z68 (P.take i)) P[i] + -1), fdC (h0 ++ z68 (P.take i)) P[i], ?_, ?_, ?_, ?_, ?_, zaz (h0 ++ z68 (P.take i)) P[i], ?_, ?_⟩
  ·rfl
  ·rfl
  ·(simp (disch := omega) only [go_sem, gH3])
  ·rfl
  ·have e := zk0 P[i] P[i]
   rw [decide_eq_true rfl] at e
   exact e
  ·rw [z6g]
   (simp (disch := omega) only [go_sem, ↓reduceIte, hw])
  rw [z6g, zb0, List.append_assoc, <- hsn]
  refine zqy (zqv (Sem.walk (own := []) z1v (by decide +kernel) ?_))
  repeat' (first | ((refine zqr fun K hK => ?_); (simp (disch := omega) only [go_sem, Nat.reduceBEq, Nat.reduceEqDiff, ↓reduceIte, Nat.reduceLT, stG, g11])) | (refine hK _ ?_; clear hK K))
  refine ⟨P.length - (i + 1), by omega, i + 1, rfl, by omega, ?_⟩
  (simp (disch := omega) only [go_sem, Nat.reduceBEq, Nat.reduceEqDiff, ↓reduceIte, true_and, and_true, and_self, g0, g2, g3, g7, g8, g9, g10, g11, gH0, gH3, z0m])
  exact (Int.natCast_add i 1).symm
 repeat' (first | ((refine zqh fun K hK => ?_); (simp (disch := omega) only [go_sem, Nat.reduceBEq, ↓reduceIte, g8, g11, z0m])) | ((refine zqm _ rfl (fun hc => ?_) (fun hc => ?_)) <;> (((try simp only [z06] at hc); (try omega)))) | refine zql ?_ | refine zqw ?_ | refine zqz ?_ | refine zqp ?_ | (refine hK _ ?_; clear hK K))
 rw [List.take_of_length_le (by omega)] at gH3
 clear hi0 hi g11
 have o1 : ∀ p ∈ h0 ++ z68 P, p.2 = 1 \/ p.2 = -1 := zg9 o0 zbr
 have l1 : (h0 ++ z68 P).length <= 4000000 := by unfold z68; rw [List.length_append, List.length_map]; omega
 obtain ⟨h1, hh1⟩ : ∃ h1, h1 = h0 ++ z68 P := ⟨_, rfl⟩
 rw [<- hh1] at o1 l1 gH3
 refine zqv (Sem.seq (Sem.seq (Sem.walk (own := []) z1v (by decide +kernel) ?_)))
 repeat' (first | ((refine zqr fun K hK => ?_); (simp (disch := omega) only [go_sem])) | (refine hK _ ?_; clear hK K))
 refine Sem.block (Sem.loop (fun n st => ∃ i : Nat, n = R.length - i /\ i <= R.length /\ 4 <= st.nx /\ st.t 2 = .ptr 0 0 /\ st.t 3 = .ptr 1 0 /\ st.t 7 = .mp 3 /\ st.t 8 = z0m P /\ st.t 9 = z0m R /\ st.t 10 = z0m M /\ st.t 12 = .int .i64 i /\ st.H 0 = some (.box 27 (z04 a)) /\ st.H 3 = some (.map (zc4 (h1 ++ z68 ((R.take i).filter fun j => !z16 j a))))) ?_ ?_)
 ·refine ⟨_, 0, rfl, ?_⟩
  (simp (disch := omega) only [go_sem, Nat.reduceBEq, true_and, List.take_zero, g0, g2, g3, g7, g8, g9, g10, gH0, gH3, z0m, List.filter_nil])
  exact ⟨rfl, by rw [show z68 [] = [] from rfl, List.append_nil]⟩
 clear g0 g2 g3 g7 g8 g9 g10 gH0 gH3 s0 s3
 clear st
 rintro n st ⟨i, rfl, hi0, g0, g2, g3, g7, g8, g9, g10, g11, gH0, gH3⟩
 have s3 := z01 (show 3 < st.nx by omega)
 have s0 := z01 (show 0 < st.nx by omega)
 refine Sem.seq (Sem.walk (own := []) z1v (by decide +kernel) ?_)
 by_cases hi : i < R.length
 ·have hln : (z68 ((R.take i).filter fun j => !z16 j a)).length <= R.length := by
   unfold z68
   rw [List.length_map]
   exact Nat.le_trans (List.length_filter_le _ _) (by rw [List.length_take]; omega)
  have hone : ∀ p ∈ h1 ++ z68 ((R.take i).filter fun j => !z16 j a), p.2 = 1 \/ p.2 = -1 := zg9 o1 zbr
  have hcb := z92 R[i] hone
  simp only [List.length_append] at hcb
  have hw : IntKind.i64.wrap (z8a (h1 ++ z68 ((R.take i).filter fun j => !z16 j a)) R[i] - 1) = z8a (h1 ++ z68 ((R.take i).filter fun j => !z16 j a)) R[i] + -1 := by rw [z28 (by omega)]; omega
  have cf := zy9 R[i] a fa.sz
  repeat' (first | ((refine zqh fun K hK => ?_); (simp (disch := omega) only [go_sem, Nat.reduceBEq, ↓reduceIte, g9, g11, z0m])) | ((refine zqm _ rfl (fun hc => ?_) (fun hc => ?_)) <;> (((try simp only [z06] at hc); (try omega)))) | refine zqk ?_ | (refine hK _ ?_; clear hK K))
  refine zqv (Sem.seq (Sem.block (Sem.seq (Sem.walk (own := [3000066, 3000069, 3000070, 5000071]) z1v (by decide +kernel) ?_))))
  repeat' (first | ((first | refine zqq (by decide +kernel) fun K hK => ?_ | refine zqt (cf) ?_); (simp (disch := omega) only [go_sem, Nat.reduceBEq, Nat.reduceEqDiff, ↓reduceIte, reduceCtorEq, Nat.reduceAdd, Nat.reduceLeDiff, g2, g9, g11, gH0, z0m])) | (refine hK _ ?_; clear hK K))
  refine zqv (Sem.seq (Sem.walk (own := []) z1v (by decide +kernel) ?_))
  repeat' (first | ((refine zqr fun K hK => ?_); (simp (disch := omega) only [go_sem, Nat.reduceBEq])) | (refine hK _ ?_; clear hK K))
  have htk := List.take_succ_eq_append_getElem hi
  by_cases hin2 : R[i] ∈ idsT a
  ·have hf2 : (findR R[i] a).2 = true := by rw [zmt, decide_eq_true hin2]
   have hno : (R.take (i + 1)).filter (fun j => !z16 j a) = (R.take i).filter (fun j => !z16 j a) := by
    rw [htk, List.filter_append, List.filter_cons, if_neg (by rw [z14, decide_eq_true hin2]; decide), List.filter_nil, List.append_nil]
   refine zqv (Sem.cond false (by (simp (disch := omega) only [go_sem, Nat.reduceBEq, hf2])) (fun h => by cases h) fun _ => Sem.walk (own := []) z1v (by decide +kernel) ?_)
   repeat' (first | refine zqk ?_ | refine zqy ?_)
   refine zqv (Sem.walk (own := []) z1v (by decide +kernel) ?_)
   repeat' (first | ((refine zqr fun K hK => ?_); (simp (disch := omega) only [go_sem, Nat.reduceBEq, ↓reduceIte, g11])) | (refine hK _ ?_; clear hK K))
   refine ⟨R.length - (i + 1), by omega, i + 1, rfl, by omega, ?_⟩
   (simp (disch := omega) only [go_sem, Nat.reduceBEq, Nat.reduceLeDiff, true_and, and_true, and_self, g2, g3, g7, g8, g9, g10, g11, gH0, gH3, hno, s0, s3, z0m])
   exact ⟨by omega, (Int.natCast_add i 1).symm⟩
  ·have hf2 : (findR R[i] a).2 = false := by rw [zmt, decide_eq_false hin2]
   have hsn : z68 ((R.take (i + 1)).filter (fun j => !z16 j a)) = z68 ((R.take i).filter (fun j => !z16 j a)) ++ [(R[i], -1)] := by
    rw [htk, List.filter_append, List.filter_cons, if_pos (by rw [z14, decide_eq_false hin2]; rfl), List.filter_nil]
    unfold z68; rw [List.map_append]; rfl
   refine zqv (Sem.cond true (by (simp (disch := omega) only [go_sem, Nat.reduceBEq, hf2])) (fun _ => (zat (own := []) (z := .int .i64 0) z1v (by decide +kernel) [0, 1, 2, 3, 4] (T := 37) (m := 76) (k := 80) (tL := 81) (tB := 82) (tE := 83) (tX := 84) (c := .int .i64 1) (bop := .sub) (bt := 3) (bu := 3) (iL := 5) (iB := 6) (iE := 7) (iX := 8) (iS := 9)
    ⟨⟨_, rfl, rfl, rfl, rfl⟩, ⟨_, rfl, rfl, rfl, rfl⟩, ⟨_, rfl, rfl, rfl, rfl⟩, ⟨_, rfl, rfl, rfl, rfl⟩, ⟨_, rfl, rfl, rfl, rfl⟩, by decide +kernel, by decide +kernel, by decide, by decide, by decide⟩ (by decide +kernel) zlt zp9 zpa ?_)) fun h => by cases h)
   refine z37 ?_ rfl
   (simp (disch := omega) only [go_sem, Nat.reduceBEq, ↓reduceIte, reduceCtorEq, Nat.reduceAdd, z6y, zm0, List.map_cons, List.map_nil, g7, g9, g11, z0m])
   refine ⟨3, zc4 (h1 ++ z68 ((R.take i).filter fun j => !z16 j a)), z3a R[i], .int .i64 (z8a (h1 ++ z68 ((R.take i).filter fun j => !z16 j a)) R[i] + -1), fdC (h1 ++ z68 ((R.take i).filter fun j => !z16 j a)) R[i], ?_, ?_, ?_, ?_, ?_, zaz (h1 ++ z68 ((R.take i).filter fun j => !z16 j a)) R[i], ?_, ?_⟩
   ·rfl
   ·rfl
   ·(simp (disch := omega) only [go_sem, gH3, s3])
   ·rfl
   ·have e := zk0 R[i] R[i]
    rw [decide_eq_true rfl] at e
    exact e
   ·rw [z6g]
    (simp (disch := omega) only [go_sem, ↓reduceIte, hw])
   rw [z6g, zb0, List.append_assoc, <- hsn]
   refine zqy (zqv (Sem.walk (own := []) z1v (by decide +kernel) ?_))
   repeat' (first | ((refine zqr fun K hK => ?_); (simp (disch := omega) only [go_sem, Nat.reduceBEq, Nat.reduceEqDiff, ↓reduceIte, Nat.reduceLT, stG, g11])) | (refine hK _ ?_; clear hK K))
   refine ⟨R.length - (i + 1), by omega, i + 1, rfl, by omega, ?_⟩
   (simp (disch := omega) only [go_sem, Nat.reduceBEq, Nat.reduceEqDiff, ↓reduceIte, Nat.reduceLeDiff, true_and, and_true, and_self, g2, g3, g7, g8, g9, g10, g11, gH0, gH3, s0, s3, z0m])
   exact ⟨by omega, (Int.natCast_add i 1).symm⟩
 repeat' (first | ((refine zqh fun K hK => ?_); (simp (disch := omega) only [go_sem, Nat.reduceBEq, ↓reduceIte, g9, g11, z0m])) | ((refine zqm _ rfl (fun hc => ?_) (fun hc => ?_)) <;> (((try simp only [z06] at hc); (try omega)))) | refine zql ?_ | refine zqw ?_ | refine zqz ?_ | refine zqp ?_ | (refine hK _ ?_; clear hK K))
 rw [List.take_of_length_le (by omega)] at gH3
 clear hi0 hi g11
 have o2 : ∀ p ∈ h1 ++ z68 (R.filter fun j => !z16 j a), p.2 = 1 \/ p.2 = -1 := zg9 o1 zbr
 have l2 : (h1 ++ z68 (R.filter fun j => !z16 j a)).length <= 5000000 := by
  unfold z68
  rw [List.length_append, List.length_map]
  have := List.length_filter_le (fun j => !z16 j a) R
  omega
 obtain ⟨h2, hh2⟩ : ∃ h2, h2 = h1 ++ z68 (R.filter fun j => !z16 j a) := ⟨_, rfl⟩
 rw [<- hh2] at o2 l2 gH3
 refine zqv (Sem.seq (Sem.seq (Sem.walk (own := []) z1v (by decide +kernel) ?_)))
 repeat' (first | ((refine zqr fun K hK => ?_); (simp (disch := omega) only [go_sem])) | (refine hK _ ?_; clear hK K))
 refine Sem.block (Sem.loop (fun n st => ∃ i : Nat, n = M.length - i /\ i <= M.length /\ 4 <= st.nx /\ st.t 2 = .ptr 0 0 /\ st.t 3 = .ptr 1 0 /\ st.t 7 = .mp 3 /\ st.t 8 = z0m P /\ st.t 9 = z0m R /\ st.t 10 = z0m M /\ st.t 15 = .int .i64 i /\ st.H 0 = some (.box 27 (z04 a)) /\ st.H 3 = some (.map (zc4 (h2 ++ z68 (M.take i))))) ?_ ?_)
 ·refine ⟨_, 0, rfl, ?_⟩
  (simp (disch := omega) only [go_sem, Nat.reduceBEq, true_and, List.take_zero, g0, g2, g3, g7, g8, g9, g10, gH0, gH3, z0m])
  exact ⟨rfl, by rw [show z68 [] = [] from rfl, List.append_nil]⟩
 clear g0 g2 g3 g7 g8 g9 g10 gH0 gH3 s0 s3
 clear st
 rintro n st ⟨i, rfl, hi0, g0, g2, g3, g7, g8, g9, g10, g11, gH0, gH3⟩
 have s3 := z01 (show 3 < st.nx by omega)
 have s0 := z01 (show 0 < st.nx by omega)
 refine Sem.seq (Sem.walk (own := []) z1v (by decide +kernel) ?_)
 by_cases hi : i < M.length
 ·have hsn := zly M hi
  have hln := zpj M i
  have hone : ∀ p ∈ h2 ++ z68 (M.take i), p.2 = 1 \/ p.2 = -1 := zg9 o2 zbr
  have hcb := z92 M[i] hone
  simp only [List.length_append] at hcb
  have hw : IntKind.i64.wrap (z8a (h2 ++ z68 (M.take i)) M[i] - 1) = z8a (h2 ++ z68 (M.take i)) M[i] + -1 := by rw [z28 (by omega)]; omega
  repeat' (first | ((refine zqh fun K hK => ?_); (simp (disch := omega) only [go_sem, Nat.reduceBEq, ↓reduceIte, g10, g11, z0m])) | ((refine zqm _ rfl (fun hc => ?_) (fun hc => ?_)) <;> (((try simp only [z06] at hc); (try omega)))) | refine zqk ?_ | (refine hK _ ?_; clear hK K))
  refine zqv (Sem.seq (Sem.block (zat (own := []) (z := .int .i64 0) z1v (by decide +kernel) [0, 1, 2, 3, 4] (T := 37) (m := 91) (k := 95) (tL := 96) (tB := 97) (tE := 98) (tX := 99) (c := .int .i64 1) (bop := .sub) (bt := 3) (bu := 3) (iL := 5) (iB := 6) (iE := 7) (iX := 8) (iS := 9)
   ⟨⟨_, rfl, rfl, rfl, rfl⟩, ⟨_, rfl, rfl, rfl, rfl⟩, ⟨_, rfl, rfl, rfl, rfl⟩, ⟨_, rfl, rfl, rfl, rfl⟩, ⟨_, rfl, rfl, rfl, rfl⟩, by decide +kernel, by decide +kernel, by decide, by decide, by decide⟩ (by decide +kernel) zlt zp9 zpa ?_)))
  refine z37 ?_ rfl
  (simp (disch := omega) only [go_sem, Nat.reduceBEq, ↓reduceIte, reduceCtorEq, Nat.reduceAdd, z6y, zm0, List.map_cons, List.map_nil, g7, g10, g11, z0m])
  refine ⟨3, zc4 (h2 ++ z68 (M.take i)), z3a M[i], .int .i64 (z8a (h2 ++ z68 (M.take i)) M[i] + -1), fdC (h2 ++ z68 (M.take i)) M[i], ?_, ?_, ?_, ?_, ?_, zaz (h2 ++ z68 (M.take i)) M[i], ?_, ?_⟩
  ·rfl
  ·rfl
  ·(simp (disch := omega) only [go_sem, gH3])
  ·rfl
  ·have e := zk0 M[i] M[i]
   rw [decide_eq_true rfl] at e
   exact e
  ·rw [z6g]
   (simp (disch := omega) only [go_sem, ↓reduceIte, hw])
  rw [z6g, zb0, List.append_assoc, <- hsn]
  refine zqy (zqv (Sem.walk (own := []) z1v (by decide +kernel) ?_))
  repeat' (first | ((refine zqr fun K hK => ?_); (simp (disch := omega) only [go_sem, Nat.reduceBEq, Nat.reduceEqDiff, ↓reduceIte, Nat.reduceLT, stG, g11])) | (refine hK _ ?_; clear hK K))
  refine ⟨M.length - (i + 1), by omega, i + 1, rfl, by omega, ?_⟩
  (simp (disch := omega) only [go_sem, Nat.reduceBEq, Nat.reduceEqDiff, ↓reduceIte, true_and, and_true, and_self, g0, g2, g3, g7, g8, g9, g10, g11, gH0, gH3, z0m])
  exact (Int.natCast_add i 1).symm
 repeat' (first | ((refine zqh fun K hK => ?_); (simp (disch := omega) only [go_sem, Nat.reduceBEq, ↓reduceIte, g10, g11, z0m])) | ((refine zqm _ rfl (fun hc => ?_) (fun hc => ?_)) <;> (((try simp only [z06] at hc); (try omega)))) | refine zql ?_ | refine zqw ?_ | refine zqz ?_ | refine zqp ?_ | (refine hK _ ?_; clear hK K))
 rw [List.take_of_length_le (by omega)] at gH3
 clear hi0 hi g11
 obtain ⟨h3, hh3⟩ : ∃ h3, h3 = h2 ++ z68 M := ⟨_, rfl⟩
 rw [<- hh3] at gH3
 have hz : ∀ i, z8a h3 i = 0 := fun i => by
  have e := zsx hb (by rw [hM] at *; exact zs9 hb.nb) i
  rw [hh3, hh2, hh1, hh0, hM, hP, hR]
  exact e
 have hent : ∀ (k : Nat) (kd vd : D), (zc4 h3)[k]? = some (kd, vd) -> vd = .int .i64 0 := fun k kd vd O => by
  unfold zc4 at O
  rw [List.getElem?_map, Option.map_eq_some_iff] at O
  obtain ⟨id, _, e⟩ := O
  rw [<- (Prod.mk.inj e).2, hz]
 clear hz hh3 hh2 hh1 hh0
 generalize zc4 h3 = es at gH3 hent
 refine zqv (Sem.seq (Sem.rangeL (own := []) 1 z1v rfl rfl rfl ⟨rfl, rfl, rfl⟩ ⟨rfl, rfl, rfl⟩ ⟨rfl, rfl, rfl⟩ ⟨rfl, rfl, rfl⟩ zlt (by decide +kernel) (by decide +kernel) (by decide +kernel) ?_))
 (simp (disch := omega) only [go_sem, Nat.reduceBEq, List.take_succ_cons, List.take_zero, List.map_cons, List.map_nil, g7])
 refine ⟨3, es, rfl, by (simp (disch := omega) only [go_sem, gH3]), fun M J => ⟨fun ls s => s.H 3 = some M /\ s.H st.nx = some (J ls) /\ s.t 101 = .it st.nx, ?_, ?_, ?_, ?_⟩⟩
 ·rintro ls s ⟨q1, q2, q3⟩
  refine ⟨q1, ?_, ?_⟩
  ·(simp (disch := omega) only [go_sem])
   exact q2
  ·(simp (disch := omega) only [go_sem])
   exact q3
 ·unfold zpt
  (simp (disch := omega) only [go_sem, Nat.reduceBEq, and_self, s3])
 ·rintro ls s i k v ⟨q1, q2, q3⟩ hnd hlt hil hkv
  obtain rfl := hent _ _ _ hkv
  unfold zpu
  (simp (disch := omega) only [go_sem, Nat.reduceBEq])
  repeat' (first | ((refine zqh fun K hK => ?_); (simp (disch := omega) only [go_sem, Nat.reduceBEq, ↓reduceIte])) | ((refine zqm _ rfl (fun hc => ?_) (fun hc => ?_)) <;> (first | (cases hc; done) | ((try simp only [] at hc); (try omega)))) | refine zqk ?_ | (refine hK _ ?_; clear hK K))
  refine zer ?_
  (simp (disch := omega) only [go_sem, Nat.reduceBEq, and_self, q1, q2, q3, s3])
 ·rintro ls s ⟨q1, q2, q3⟩ hnd hlt hall
  unfold zjy
  refine zqv (Sem.walk (own := []) z1v (by decide +kernel) ?_)
  repeat' (first | ((refine zqh fun K hK => ?_); (simp (disch := omega) only [go_sem])) | refine zqn ?_ | refine zqu (by simp only [go_sem]; rfl) rfl ?_ | (refine hK _ ?_; clear hK K))
  exact z05 rfl
end
end Go.Proofs.YtfechgagcgbldaaDoor
