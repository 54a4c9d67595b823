import Derived.Test.YtfechgagcgbldaaGreatDoorWE
/-
 Lemmas of the claim. No condition but those that each names.
-/
set_option linter.unusedSimpArgs false
set_option linter.unusedVariables false
set_option maxHeartbeats 8000000
set_option maxRecDepth 100000
set_option linter.unusedSectionVars false
namespace Go.Proofs.YtfechgagcgbldaaGreatDoor
open _root_.Go.Proofs.Tryz
section
open Abs Facts Tr
attribute [local irreducible] awp
set_option maxRecDepth 100000
namespace Abs
theorem zko {P : Program} {n : FuncId} {args cap : List D} {g : List Oper -> (St -> Prop) -> St -> Prop} {rest : List Oper} {K : St -> Prop} {st : St} {dst : Option Nat} {objs : List HObj} {r : D} (h : AC P n (args ++ cap) st.H st.nx fun r' H2 n2 => r' = renD (fun j => st.nx + j) r /\ H2 = zjc st.H st.nx objs /\ n2 = st.nx + objs.length)
  (O : g rest K ((st.withH (zjc st.H st.nx objs) (st.nx + objs.length)).put dst (renD (fun j => st.nx + j) r))) : zff P (.fn n cap) args g rest K st dst :=
 z3q (h.mono fun r' H2 n2 ⟨h1, h2, h3⟩ => by subst h1; subst h2; subst h3; exact O)
end Abs
namespace Tr
theorem zkp {S l l' : List Idv} {ls : List Nat} {i : Nat} {c : Idv} (h : ∀ x, x ∈ l' ↔ x ∈ l \/ ∃ j ∈ ls, S[j]? = some x) (hc : S[i]? = some c) : (c ∈ l' -> ∀ x, x ∈ l' ↔ x ∈ l \/ ∃ j ∈ ls ++ [i], S[j]? = some x) /\ (∀ x, x ∈ l' ++ [c] ↔ x ∈ l \/ ∃ j ∈ ls ++ [i], S[j]? = some x) := by
 have key : ∀ x, (∃ j ∈ ls ++ [i], S[j]? = some x) ↔ (∃ j ∈ ls, S[j]? = some x) \/ x = c := fun x => by
  constructor
  ·rintro ⟨j, hj, e⟩
   rcases List.mem_append.1 hj with hj | hj
   ·exact .inl ⟨j, hj, e⟩
   ·rw [List.mem_singleton] at hj; subst hj; rw [hc, Option.some.injEq] at e; exact .inr e.symm
  ·rintro (⟨j, hj, e⟩ | rfl)
   ·exact ⟨j, List.mem_append_left _ hj, e⟩
   ·exact ⟨i, by simp, hc⟩
 refine ⟨fun hm x => ?_, fun x => ?_⟩
 ·rw [key, h x]
  constructor
  ·rintro (h1 | h1)
   ·exact .inl h1
   ·exact .inr (.inl h1)
  ·rintro (h1 | h1 | rfl)
   ·exact .inl h1
   ·exact .inr h1
   ·exact (h x).1 hm
 ·rw [key, List.mem_append, List.mem_singleton, h x, or_assoc]
def zrc (A u : T) (l out : List Idv) : List Idv := if z26 u.id A = true /\ ¬ u.kind = 0 /\ u.id ∉ l then out ++ [u.id] else out
end Tr
set_option maxHeartbeats 16000000 in
theorem zkq (A B u : T) (pc : List D) (hpc : pc.length = 8) (x s sm o ow p q : Nat) (na : (idsT A).Nodup) (hu : szB u = true) (hk0 : ∀ k ∈ u.kids, ¬ A.id = k.id) (hnk : (u.kids.map T.id).Nodup) (l out : List Idv) (hl : l.Nodup) (hout : out.length <= 1000000) (H : HM) (nx : Nat)
  (hx : x < nx) (hs : s < nx) (hsm : sm < nx) (ho : o < nx) (how : ow < nx) (hp : p < nx) (hHx : H x = some (.box 111 (cellsPr A B p q))) (hHs : H s = some (.box 50 [.mp sm])) (hHsm : H sm = some (.map (setI l)))
  (hHo : H o = some (.box 56 [.osl ow out.length])) (hHow : H ow = some (.row 23 out.length (out.flatMap cellsId))) (hHp : H p = some (.map (mapI encPl (plcs A)))) (hps : p ≠ sm) (hso : s ≠ o) (hxs : x ≠ s) :
  AC prog 98 [z1f u, .agg pc, .ptr x 0, .ptr s 0, .ptr o 0] H nx fun r' H' nx' => r' = .tup [] /\ nx' = nx /\ ∃ l' : List Idv, l'.Nodup /\ (∀ i, i ∈ l' ↔ i ∈ l \/ i ∈ z2d A u) /\ H' sm = some (.map (setI l')) /\
   H' o = some (.box 56 [.osl ow (zrc A u l' out).length]) /\ H' ow = some (.row 23 (zrc A u l' out).length ((zrc A u l' out).flatMap cellsId)) /\ ∀ id, id < nx -> id ≠ sm -> id ≠ o -> id ≠ ow -> H' id = H id := by
 have a1 : x ≠ sm := fun e => by subst e; rw [hHx] at hHsm; cases hHsm
 have a2 : s ≠ sm := fun e => by subst e; rw [hHs] at hHsm; cases hHsm
 have a3 : o ≠ sm := fun e => by subst e; rw [hHo] at hHsm; cases hHsm
 have a4 : ow ≠ sm := fun e => by subst e; rw [hHow] at hHsm; cases hHsm
 have a5 : ow ≠ o := fun e => by subst e; rw [hHow] at hHo; cases hHo
 have a6 : p ≠ o := fun e => by subst e; rw [hHp] at hHo; cases hHo
 have a7 : p ≠ ow := fun e => by subst e; rw [hHp] at hHow; cases hHow
 have a8 : x ≠ ow := fun e => by subst e; rw [hHx] at hHow; cases hHow
 have a9 : s ≠ ow := fun e => by subst e; rw [hHs] at hHow; cases hHow
 have d1 := z28 a1
 have d2 := z28 a2
 have d3 := z28 a3
 have d4 := z28 a4
 have d5 := z28 a5
 have d6 := z28 hps
 have d7 := z28 hso
 have d8 := z28 (Ne.symm a5)
 have d9 := z28 (Ne.symm a3)
 have d10 := z28 (Ne.symm a4)
 have d11 := z28 (Ne.symm hso)
 have e1 := z05 hx
 have e2 := z05 hs
 have e3 := z05 hsm
 have e4 := z05 ho
 have e5 := z05 how
 have e6 := z05 hp
 suffices h : AC prog 98 [z1f u, .agg pc, .ptr x 0, .ptr s 0, .ptr o 0] H nx fun r' H' _ => r' = .tup [] /\ ∃ l' : List Idv, l'.Nodup /\ (∀ i, i ∈ l' ↔ i ∈ l \/ i ∈ z2d A u) /\ H' sm = some (.map (setI l')) /\
   H' o = some (.box 56 [.osl ow (zrc A u l' out).length]) /\ H' ow = some (.row 23 (zrc A u l' out).length ((zrc A u l' out).flatMap cellsId)) /\ ∀ id, id < nx -> id ≠ sm -> id ≠ o -> id ≠ ow -> H' id = H id by
  refine (zaa h ?_).mono ?_
  ·rintro r H' nx' ⟨rfl, l', _, _, h3, h4, h5, h6⟩
   refine ⟨rfl, fun id q hid hq => ?_⟩
   by_cases c1 : id = sm
   ·subst c1; rw [h3] at hq; cases hq; exact .inr (zdr (zc1 _))
   by_cases c2 : id = o
   ·subst c2; rw [h4] at hq; cases hq; refine .inr ?_; simp [lowO, lowD.lowL, lowD, how]
   by_cases c3 : id = ow
   ·subst c3; rw [h5] at hq; cases hq; exact .inr (zdr (z15 (fun _ => rfl) _))
   exact .inl (by rw [<- h6 id hid c1 c2 c3]; exact hq)
  ·rintro r H2 n2 ⟨rfl, H', nx', ⟨rfl, l', h1, h2, h3, h4, h5, h6⟩, rfl⟩
   have hc : ∀ {id}, id < n2 -> zse n2 H' id = H' id := fun h => if_pos h
   exact ⟨rfl, rfl, l', h1, h2, (hc hsm).trans h3, (hc ho).trans h4, (hc how).trans h5, fun id hid c1 c2 c3 => (hc hid).trans (h6 id hid c1 c2 c3)⟩
 refine zaq func98 rfl (by decide +kernel) (by simp [ntmps98]) ?_
 refine Sem.seq (Sem.walk (own := []) z6z (by decide +kernel) ?_)
 repeat' (first | ((refine zqr fun K hK => ?_); (simp (disch := omega) only [go_sem, Nat.reduceBEq])) | refine zqv ?_ | (refine hK _ ?_; clear hK K))
 obtain ⟨S, hS⟩ : ∃ S, S = z2d A u := ⟨_, rfl⟩
 refine Sem.seq (Sem.rangeL (own := []) 3 z6z rfl rfl rfl ⟨rfl, rfl, rfl⟩ ⟨rfl, rfl, rfl⟩ ⟨rfl, rfl, rfl⟩ ⟨rfl, rfl, rfl⟩ mapT50 (by decide +kernel) (by decide +kernel) (by decide +kernel) ?_)
 (simp (disch := omega) only [go_sem, Nat.reduceBEq, ↓reduceIte, Nat.reduceAdd, Nat.reduceLeDiff, e1, hHx, List.take_succ_cons, List.take_zero, List.map_cons, List.map_nil])
 refine zko (zxh A B u p q na hu hk0 hnk _ _ ?_ ?_) ?_
 ·(simp (disch := omega) only [go_sem])
 ·(simp (disch := omega) only [go_sem, e6, hHp])
 rw [<- hS]
 (simp (disch := omega) only [go_sem, Nat.reduceBEq])
 refine ⟨nx + 2, setI S, rfl, by (simp (disch := omega) only [go_sem, e1]), fun M J => ⟨fun ls st => st.H (nx + 2) = some M /\ st.H (nx + 3) = some (J ls) /\ st.t 13 = .it (nx + 3) /\ st.t 2 = .ptr x 0 /\ st.t 3 = .ptr s 0 /\ st.t 4 = .ptr o 0 /\ st.t 5 = .ptr nx 0 /\ st.H nx = some (.box 27 (z06 u)) /\ nx + 4 <= st.nx /\ (∀ id, id < nx -> id ≠ sm -> st.H id = H id) /\
  ∃ l' : List Idv, l'.Nodup /\ (∀ i, i ∈ l' ↔ i ∈ l \/ ∃ j ∈ ls, S[j]? = some i) /\ st.H sm = some (.map (setI l')), ?_, ?_, ?_, ?_⟩⟩
 ·rintro ls st ⟨g1, g2, g3, _⟩
  refine ⟨g1, ?_, ?_⟩
  ·(simp (disch := omega) only [go_sem])
   exact g2
  ·(simp (disch := omega) only [go_sem])
   exact g3
 ·unfold zt6
  (simp (disch := omega) only [go_sem, Nat.reduceBEq, Nat.reduceLeDiff, e1, e3, true_and])
  refine ⟨Nat.le_refl _, fun id hid hne => ?_, l, hl, fun i => ?_, hHsm⟩
  ·simp (disch := omega) only [z0h]
  ·exact ⟨.inl, fun h => h.elim id fun ⟨j, hj, _⟩ => by cases hj⟩
 ·rintro ls st i k v ⟨g1, g2, g3, g4, g5, g6, g7, g8, g9, g10, l', h1, h2, h3⟩ hnd hlt hil hkv
  obtain ⟨c, hc, rfl, rfl⟩ : ∃ c, S[i]? = some c /\ k = z48 c /\ v = .bool true := by
   unfold setI at hkv
   rw [List.getElem?_map, Option.map_eq_some_iff] at hkv
   obtain ⟨c, hc, he⟩ := hkv
   simp only [Prod.mk.injEq] at he
   exact ⟨c, hc, he.1.symm, he.2.symm⟩
  have gs : st.H s = some (.box 50 [.mp sm]) := (g10 s hs a2).trans hHs
  have f0 := z05 (show nx < st.nx by omega)
  have f1 := z05 (show nx + 2 < st.nx by omega)
  have f2 := z05 (show nx + 3 < st.nx by omega)
  have f3 := z05 (show s < st.nx by omega)
  have f4 := z05 (show sm < st.nx by omega)
  have hfk := zcr c l'
  unfold zt7
  by_cases hm : c ∈ l'
  ·rw [if_pos hm] at hfk
   have hsv := zgt h1 hm
   (simp (disch := omega) only [go_sem, Nat.reduceBEq, ↓reduceIte, Nat.reduceAdd, Nat.reduceLeDiff])
   repeat' (first | ((refine zqr fun K hK => ?_); (simp (disch := omega) only [go_sem, Nat.reduceBEq, ↓reduceIte, Nat.reduceAdd, Nat.reduceLeDiff, e2, e3, f2, f3, f4, g5, gs, h3, hfk, hsv])) | (refine hK _ ?_; clear hK K))
   refine zgp ?_
   (simp (disch := omega) only [go_sem, Nat.reduceBEq, Nat.reduceLeDiff, e1, e3, f0, f1, f2, f4, g1, g2, g3, g4, g5, g6, g7, g8, true_and])
   exact ⟨by omega, fun id hid hne => by simp (disch := omega) only [z0h]; exact g10 id hid hne, l', h1, (zkp h2 hc).1 hm, rfl⟩
  ·rw [if_neg hm] at hfk
   have hsn := zar l' c
   (simp (disch := omega) only [go_sem, Nat.reduceBEq, ↓reduceIte, Nat.reduceAdd, Nat.reduceLeDiff])
   repeat' (first | ((refine zqr fun K hK => ?_); (simp (disch := omega) only [go_sem, Nat.reduceBEq, ↓reduceIte, Nat.reduceAdd, Nat.reduceLeDiff, e2, e3, f2, f3, f4, g5, gs, h3, hfk, hsn])) | (refine hK _ ?_; clear hK K))
   refine zgp ?_
   (simp (disch := omega) only [go_sem, Nat.reduceBEq, Nat.reduceLeDiff, e1, e3, f0, f1, f2, f4, g1, g2, g3, g4, g5, g6, g7, g8, true_and])
   exact ⟨by omega, fun id hid hne => by simp (disch := omega) only [z0h]; exact g10 id hid hne, l' ++ [c], znd h1 hm, (zkp h2 hc).2, rfl⟩
 ·rintro ls st ⟨g1, g2, g3, g4, g5, g6, g7, g8, g9, g10, l', h1, h2, h3⟩ hnd hlt hall
  unfold zm4
  refine zqv (Sem.walk (own := []) z6z (by decide +kernel) ?_)
  have gx : st.H x = some (.box 111 (cellsPr A B p q)) := (g10 x hx a1).trans hHx
  have gs : st.H s = some (.box 50 [.mp sm]) := (g10 s hs a2).trans hHs
  have go : st.H o = some (.box 56 [.osl ow out.length]) := (g10 o ho a3).trans hHo
  have gow : st.H ow = some (.row 23 out.length (out.flatMap cellsId)) := (g10 ow how a4).trans hHow
  have gp : st.H p = some (.map (mapI encPl (plcs A))) := (g10 p hp hps).trans hHp
  have f0 := z05 (show nx < st.nx by omega)
  have f1 := z05 (show nx + 2 < st.nx by omega)
  have f2 := z05 (show nx + 3 < st.nx by omega)
  have f3 := z05 (show s < st.nx by omega)
  have f4 := z05 (show sm < st.nx by omega)
  have f5 := z05 (show x < st.nx by omega)
  have f6 := z05 (show o < st.nx by omega)
  have f7 := z05 (show ow < st.nx by omega)
  have f8 := z05 (show p < st.nx by omega)
  have hmem : ∀ i, i ∈ l' ↔ i ∈ l \/ i ∈ S := fun i => by
   rw [h2 i]
   refine or_congr Iff.rfl ⟨fun ⟨j, _, h⟩ => List.mem_of_getElem? h, fun h => ?_⟩
   obtain ⟨j, hj, e⟩ := List.getElem_of_mem h
   exact ⟨j, hall j (by unfold setI; rw [List.length_map]; exact hj), by rw [List.getElem?_eq_getElem hj, e]⟩
  have hfk := zcr u.id l'
  rcases zi9 na u.id with ⟨hA, y, _, _, n, hf⟩ | ⟨hA, hf⟩
  ·by_cases O : u.kind = 0
   ·repeat' (first | ((refine zqh fun K hK => ?_); (simp (disch := omega) only [go_sem, Nat.reduceBEq, ↓reduceIte, reduceCtorEq, Nat.reduceAdd, Nat.reduceLeDiff, e1, e6, f0, f1, gx, gp, g4, g7, g8, hf, O])) | ((refine zqm _ rfl (fun hc => ?_) (fun hc => ?_)) <;> (first | (cases hc; done) | ((try simp only [] at hc); (try omega)))) | refine zqk ?_ | refine zqu (by simp only [go_sem]; rfl) rfl ?_ | (refine hK _ ?_; clear hK K))
    have he : zrc A u l' out = out := if_neg fun h => h.2.1 O
    refine ⟨rfl, l', h1, hmem, ?_⟩
    rw [he]
    (simp (disch := omega) only [go_sem, e3, e4, e5, f4, f6, f7, go, gow, h3, true_and])
    exact fun id hid c1 c2 c3 => by simp (disch := omega) only [z0h]; exact g10 id hid c1
   ·by_cases hm : u.id ∈ l'
    ·rw [if_pos hm] at hfk
     repeat' (first | ((refine zqh fun K hK => ?_); (simp (disch := omega) only [go_sem, Nat.reduceBEq, ↓reduceIte, reduceCtorEq, Nat.reduceAdd, Nat.reduceLeDiff, e1, e2, e3, e6, f0, f1, f3, f4, gx, gs, gp, g4, g5, g7, g8, h3, hf, O, hfk])) | ((refine zqm _ rfl (fun hc => ?_) (fun hc => ?_)) <;> (first | (cases hc; done) | ((try simp only [] at hc); (try omega)))) | refine zqk ?_ | refine zqu (by simp only [go_sem]; rfl) rfl ?_ | (refine hK _ ?_; clear hK K))
     have he : zrc A u l' out = out := if_neg fun h => h.2.2 hm
     refine ⟨rfl, l', h1, hmem, ?_⟩
     rw [he]
     (simp (disch := omega) only [go_sem, e3, e4, e5, f4, f6, f7, go, gow, h3, true_and])
     exact fun id hid c1 c2 c3 => by simp (disch := omega) only [z0h]; exact g10 id hid c1
    ·rw [if_neg hm] at hfk
     repeat' (first | ((first | refine zqh fun K hK => ?_ | refine zqr fun K hK => ?_); (simp (disch := omega) only [go_sem, Nat.reduceBEq, ↓reduceIte, reduceCtorEq, Nat.reduceAdd, Nat.reduceMul, Nat.reduceLeDiff, Nat.reduceLT, e1, e2, e3, e4, e5, e6, f0, f1, f3, f4, f6, f7, d8, gx, gs, go, gow, gp, g4, g5, g6, g7, g8, h3, hf, O, hfk])) | ((refine zqm _ rfl (fun hc => ?_) (fun hc => ?_)) <;> (first | (cases hc; done) | ((try simp only [] at hc); (try omega)))) | refine zqu (by simp only [go_sem]; rfl) rfl ?_ | (refine hK _ ?_; clear hK K))
     have he : zrc A u l' out = out ++ [u.id] := if_pos ⟨hA, O, hm⟩
     refine ⟨rfl, l', h1, hmem, ?_⟩
     rw [he]
     (simp (disch := omega) only [go_sem, e3, e4, e5, f4, f6, f7, d5, d8, d9, d10, go, gow, h3, true_and, List.length_append, List.length_cons, List.length_nil, List.flatMap_append, List.flatMap_cons, List.flatMap_nil, List.append_nil, cellsId])
     exact fun id hid c1 c2 c3 => by simp (disch := omega) only [z0h]; exact g10 id hid c1
  ·repeat' (first | ((refine zqh fun K hK => ?_); (simp (disch := omega) only [go_sem, Nat.reduceBEq, ↓reduceIte, reduceCtorEq, Nat.reduceAdd, Nat.reduceLeDiff, e1, e6, f1, gx, gp, g4, g7, g8, hf])) | ((refine zqm _ rfl (fun hc => ?_) (fun hc => ?_)) <;> (first | (cases hc; done) | ((try simp only [] at hc); (try omega)))) | refine zqk ?_ | refine zqu (by simp only [go_sem]; rfl) rfl ?_ | (refine hK _ ?_; clear hK K))
   have he : zrc A u l' out = out := if_neg fun h => by have := h.1; rw [hA] at this; cases this
   refine ⟨rfl, l', h1, hmem, ?_⟩
   rw [he]
   (simp (disch := omega) only [go_sem, e3, e4, e5, f4, f6, f7, go, gow, h3, true_and])
   exact fun id hid c1 c2 c3 => by simp (disch := omega) only [z0h]; exact g10 id hid c1
end
section
open Abs Facts Tr
attribute [local irreducible] awp
set_option maxRecDepth 100000
namespace Tr
def outL (A : T) (done : List (T × T)) : List Idv := (done.filter fun e => z26 e.2.id A && !decide (e.2.id ∈ z2d A e.1)).map fun e => e.2.id
theorem znp (A B : T) : outL A (edT B) = zg4 A B := rfl
theorem zsk (A : T) (done : List (T × T)) : (outL A done).length <= done.length := by
 unfold outL; rw [List.length_map]; exact List.length_filter_le _ _
theorem zsl (A : T) (done : List (T × T)) (e : T × T) : outL A (done ++ [e]) = if z26 e.2.id A = true /\ e.2.id ∉ z2d A e.1 then outL A done ++ [e.2.id] else outL A done := by
 unfold outL
 rw [List.filter_append, List.map_append]
 by_cases h1 : z26 e.2.id A = true <;> by_cases h2 : e.2.id ∈ z2d A e.1 <;> simp [h1, h2]
def inS (A B : T) (done : List (T × T)) (i : Idv) : Prop := i ∈ z2d A B \/ ∃ e ∈ done, i ∈ z2d A e.2
theorem mv_step {A B : T} (bk : z39 B = true) {u k : T} (hu : u ∈ nodesT B) (O : k ∈ u.kids) {l l' : List Idv} {done : List (T × T)} (V : ∀ e ∈ done, e.2 ∈ nodesT B) (hl : ∀ i, i ∈ l ↔ inS A B done i) (hl' : ∀ i, i ∈ l' ↔ i ∈ l \/ i ∈ z2d A k) (hin : u = B \/ ∃ e ∈ done, e.2 = u) :
  zrc A k l' (outL A done) = outL A (done ++ [(u, k)]) /\ ∀ i, i ∈ l' ↔ inS A B (done ++ [(u, k)]) i := by
 have nb := ((z1p B).1 bk).2.2
 have hkn : k ∈ nodesT B := z0z B u hu k (z0i O (z09 k))
 have hm : ∀ i, i ∈ l' ↔ inS A B (done ++ [(u, k)]) i := fun i => by
  rw [hl', hl]
  unfold inS
  constructor
  ·rintro ((h | ⟨e, he, h⟩) | h)
   ·exact .inl h
   ·exact .inr ⟨e, List.mem_append_left _ he, h⟩
   ·exact .inr ⟨(u, k), by simp, h⟩
  ·rintro (h | ⟨e, he, h⟩)
   ·exact .inl (.inl h)
   ·rcases List.mem_append.1 he with he | he
    ·exact .inl (.inr ⟨e, he, h⟩)
    ·rw [List.mem_singleton] at he; subst he; exact .inr h
 refine ⟨?_, hm⟩
 have hkind : ¬ k.kind = 0 := (z8u bk hu).2.2.2.2 k O
 have key : k.id ∈ l' ↔ k.id ∈ z2d A u := by
  rw [hm]
  constructor
  ·intro h
   have fin : ∀ q ∈ nodesT B, k.id ∈ z2d A q -> k.id ∈ z2d A u := fun q hq hs => by
    obtain ⟨k', hk', e, _⟩ := z74 hs
    obtain ⟨e2, _⟩ := zt4 nb hq hk' hu O e
    exact e2 ▸ hs
   rcases h with h | ⟨e, he, h⟩
   ·exact fin B (z09 B) h
   ·rcases List.mem_append.1 he with he | he
    ·exact fin _ (V e he) h
    ·rw [List.mem_singleton] at he; subst he; exact fin k hkn h
  ·intro h
   rcases hin with rfl | ⟨e, he, rfl⟩
   ·exact .inl h
   ·exact .inr ⟨e, List.mem_append_left _ he, h⟩
 rw [zsl]
 unfold zrc
 simp only [key, hkind, not_false_iff, true_and]
theorem z009 (t : T) : (edT t).length + 1 = cntT t := by
 have h := congrArg List.length (ed_ids t)
 rw [List.length_cons, List.length_map] at h
 unfold idsT at h
 rw [List.length_map] at h
 exact h.symm
def edN (u : T) (i : Nat) : List (T × T) := (u.kids.take i).flatMap fun k => (u, k) :: edT k
theorem znq {u : T} {i : Nat} (h : i < u.kids.length) : edN u (i + 1) = edN u i ++ [(u, u.kids[i])] ++ edT u.kids[i] := by
 unfold edN
 rw [List.take_succ_eq_append_getElem h, List.flatMap_append]
 simp
theorem edN_all (u : T) : edN u u.kids.length = edT u := by rw [zjo, edN, List.take_length]
theorem edN_le {u : T} {i : Nat} (h : i < u.kids.length) : (edN u i).length + 1 + (edT u.kids[i]).length <= (edT u).length := by
 have h1 : edT u = edN u (i + 1) ++ (u.kids.drop (i + 1)).flatMap fun k => (u, k) :: edT k := by
  rw [zjo, edN, <- List.flatMap_append, List.take_append_drop]
 rw [h1, znq h]
 simp only [List.length_append, List.length_cons, List.length_nil]
 omega
end Tr
section
variable (A B : T) (x s sm o ow p q : Nat)
structure MvI (done : List (T × T)) (H : HM) : Prop where
 sub : ∀ e ∈ done, e.2 ∈ nodesT B
 set : ∃ l : List Idv, l.Nodup /\ (∀ i, i ∈ l ↔ inS A B done i) /\ H sm = some (.map (setI l))
 ho : H o = some (.box 56 [.osl ow (outL A done).length])
 how : H ow = some (.row 23 (outL A done).length ((outL A done).flatMap cellsId))
structure MvF (nx : Nat) (H : HM) : Prop where
 lx : x < nx
 ls : s < nx
 lsm : sm < nx
 lo : o < nx
 low : ow < nx
 lp : p < nx
 hx : H x = some (.box 111 (cellsPr A B p q))
 hs : H s = some (.box 50 [.mp sm])
 hp : H p = some (.map (mapI encPl (plcs A)))
 xsm : x ≠ sm
 xo : x ≠ o
 xow : x ≠ ow
 ssm : s ≠ sm
 so : s ≠ o
 sow : s ≠ ow
 psm : p ≠ sm
 po : p ≠ o
 pow : p ≠ ow
end
theorem MvF.later {A B : T} {x s sm o ow p q nx nx' : Nat} {H H' : HM} (h : MvF A B x s sm o ow p q nx H) (hn : nx <= nx') (O : ∀ id, id < nx -> id ≠ sm -> id ≠ o -> id ≠ ow -> H' id = H id) : MvF A B x s sm o ow p q nx' H' where
 lx := Nat.lt_of_lt_of_le h.lx hn
 ls := Nat.lt_of_lt_of_le h.ls hn
 lsm := Nat.lt_of_lt_of_le h.lsm hn
 lo := Nat.lt_of_lt_of_le h.lo hn
 low := Nat.lt_of_lt_of_le h.low hn
 lp := Nat.lt_of_lt_of_le h.lp hn
 hx := (O x h.lx h.xsm h.xo h.xow).trans h.hx
 hs := (O s h.ls h.ssm h.so h.sow).trans h.hs
 hp := (O p h.lp h.psm h.po h.pow).trans h.hp
 xsm := h.xsm
 xo := h.xo
 xow := h.xow
 ssm := h.ssm
 so := h.so
 sow := h.sow
 psm := h.psm
 po := h.po
 pow := h.pow
theorem MvI.later {A B : T} {sm o ow : Nat} {done : List (T × T)} {H H' : HM} (h : MvI A B sm o ow done H) (h1 : H' sm = H sm) (h2 : H' o = H o) (h3 : H' ow = H ow) : MvI A B sm o ow done H' where
 sub := h.sub
 set := by obtain ⟨l, a, b, c⟩ := h.set; exact ⟨l, a, b, h1.trans c⟩
 ho := h2.trans h.ho
 how := h3.trans h.how
theorem ac_meet {A B : T} (na : (idsT A).Nodup) (bk : z39 B = true) (hr : A.id = B.id) {u k : T} (hu : u ∈ nodesT B) (O : k ∈ u.kids) (hz : szB k = true) (x s sm o ow p q : Nat) (pc : List D) (hpc : pc.length = 8) (done : List (T × T)) (hdl : done.length <= 1000000) (hin : u = B \/ ∃ e ∈ done, e.2 = u) (H : HM) (nx : Nat)
  (hF : MvF A B x s sm o ow p q nx H) (hI : MvI A B sm o ow done H) :
  AC prog 98 [z1f k, .agg pc, .ptr x 0, .ptr s 0, .ptr o 0] H nx fun r' H' nx' => r' = .tup [] /\ nx' = nx /\ MvI A B sm o ow (done ++ [(u, k)]) H' /\ ∀ id, id < nx -> id ≠ sm -> id ≠ o -> id ≠ ow -> H' id = H id := by
 have nb := ((z1p B).1 bk).2.2
 have hkn : k ∈ nodesT B := z0z B u hu k (z0i O (z09 k))
 obtain ⟨l, h1, h2, h3⟩ := hI.set
 refine (zkq A B k pc hpc x s sm o ow p q na hz (fun y hy => by rw [hr]; exact z6e nb hkn hy) (z30 nb hkn) l (outL A done) h1 (Nat.le_trans (zsk _ _) hdl) H nx hF.lx hF.ls hF.lsm hF.lo hF.low hF.lp hF.hx hF.hs h3 hI.ho hI.how hF.hp hF.psm hF.so (fun e => by have h9 := hF.hx; rw [e, hF.hs] at h9; cases h9)).mono ?_
 rintro r' H' nx' ⟨g1, g2, l', g3, g4, g5, g6, g7, g8⟩
 obtain ⟨m1, m2⟩ := mv_step bk hu O hI.sub h2 g4 hin
 rw [m1] at g6 g7
 refine ⟨g1, g2, ⟨fun e he => ?_, ⟨l', g3, m2, g5⟩, g6, g7⟩, g8⟩
 rcases List.mem_append.1 he with he | he
 ·exact hI.sub e he
 ·rw [List.mem_singleton] at he; subst he; exact hkn
theorem zsm {A B : T} {sm o ow nx : Nat} {done : List (T × T)} {H H' : HM} (hI : MvI A B sm o ow done H') (how : ow < nx) (O : ∀ id, id < nx -> id ≠ sm -> id ≠ o -> id ≠ ow -> H' id = H id) : ∀ id q, id < nx -> H' id = some q -> H id = some q \/ lowO nx q = true := by
 intro id q hid hq
 obtain ⟨l, _, _, h3⟩ := hI.set
 by_cases c1 : id = sm
 ·subst c1; rw [h3] at hq; cases hq; exact .inr (zdr (zc1 _))
 by_cases c2 : id = o
 ·subst c2; rw [hI.ho] at hq; cases hq; refine .inr ?_; simp [lowO, lowD.lowL, lowD, how]
 by_cases c3 : id = ow
 ·subst c3; rw [hI.how] at hq; cases hq; exact .inr (zdr (z15 (fun _ => rfl) _))
 exact .inl (by rw [<- O id hid c1 c2 c3]; exact hq)
set_option maxHeartbeats 16000000 in
theorem zx9 {A B : T} (na : (idsT A).Nodup) (bk : z39 B = true) (hr : A.id = B.id) (x s sm o ow p q : Nat) : ∀ u : T, u ∈ nodesT B -> szB u = true -> ∀ (done : List (T × T)), done.length + (edT u).length <= 1000000 -> (u = B \/ ∃ e ∈ done, e.2 = u) -> ∀ (H : HM) (nx : Nat), MvF A B x s sm o ow p q nx H -> MvI A B sm o ow done H ->
  AC prog 116 [z1f u, .fn 98 [.ptr x 0, .ptr s 0, .ptr o 0]] H nx fun r' H' nx' => r' = .tup [] /\ nx' = nx /\ MvI A B sm o ow (done ++ edT u) H' /\ ∀ id, id < nx -> id ≠ sm -> id ≠ o -> id ≠ ow -> H' id = H id := by
 refine z50 fun u ih hu hsz done hdl hin H nx hF hI => ?_
 obtain ⟨h0, h1, g1, h2, g2, h3, h4⟩ := (z2o u).1 hsz
 suffices h : AC prog 116 [z1f u, .fn 98 [.ptr x 0, .ptr s 0, .ptr o 0]] H nx fun r' H' _ => r' = .tup [] /\ MvI A B sm o ow (done ++ edT u) H' /\ ∀ id, id < nx -> id ≠ sm -> id ≠ o -> id ≠ ow -> H' id = H id by
  refine (zaa h fun r H' nx' ⟨hr, hi, O⟩ => ⟨by rw [hr]; rfl, zsm hi hF.low O⟩).mono ?_
  rintro r H2 n2 ⟨rfl, H', nx', ⟨hr, hi, O⟩, rfl⟩
  have hc : ∀ {id}, id < n2 -> zse n2 H' id = H' id := fun h => if_pos h
  exact ⟨hr, rfl, hi.later (hc hF.lsm) (hc hF.lo) (hc hF.low), fun id hid c1 c2 c3 => (hc hid).trans (O id hid c1 c2 c3)⟩
 refine (z23 [] func116 rfl (by decide +kernel) rfl ?_)
 show awp _ _ (Code.seq _ _) _ _
 repeat' (first | ((refine zqh fun K hK => ?_); (simp (disch := omega) only [go_sem, Nat.reduceBEq, ↓reduceIte, reduceCtorEq, Nat.reduceAdd])) | refine zqi ?_ | (refine hK _ ?_; clear hK K))
 (refine z3i (fun U st => ∃ (i : Nat), U = u.kids.length - i /\ st.t 2 = .ptr nx 0 /\ st.t 1 = .fn 98 [.ptr x 0, .ptr s 0, .ptr o 0] /\ st.t 7 = z0b u.kids /\ st.t 8 = .int .i64 u.kids.length /\ st.t 9 = .int .i64 i /\ st.H (nx) = some (.box 27 (z06 u)) /\ (i <= u.kids.length) /\ (nx < st.nx) /\ (MvI A B sm o ow (done ++ edN u i) st.H) /\ (∀ id, id < nx -> id ≠ sm -> id ≠ o -> id ≠ ow -> st.H id = H id)) ?_ ?_); rotate_left; (rintro U st ⟨i, rfl, v2, v1, v7, v8, v9, vHnx, vp0, vp1, vp2, vp3⟩); rotate_left
 ·(refine ⟨_, 0, rfl, ?_⟩); (simp (disch := omega) only [go_sem, Nat.reduceBEq, true_and, Int.natCast_zero, z0b])
  have hz : done ++ edN u 0 = done := by rw [show edN u 0 = [] from rfl, List.append_nil]
  rw [hz]
  exact ⟨Nat.lt_succ_self _, hI.later (z2v _ (by have := hF.lsm; omega)) (z2v _ (by have := hF.lo; omega)) (z2v _ (by have := hF.low; omega)), fun id hid c1 c2 c3 => by simp (disch := omega) only [z0h]⟩
 have f0 := z05 (show nx < st.nx by omega)
 by_cases hi : i < u.kids.length
 ·have hki := List.getElem_mem hi
  have hn := znq hi
  have hle := edN_le hi
  have hF1 : MvF A B x s sm o ow p q st.nx st.H := hF.later (by omega) vp3
  have hin1 : u = B \/ ∃ e ∈ done ++ edN u i, e.2 = u := hin.imp id fun ⟨e, he, h⟩ => ⟨e, List.mem_append_left _ he, h⟩
  have hdl1 : (done ++ edN u i).length <= 1000000 := by rw [List.length_append]; omega
  repeat' (first | ((refine zqh fun K hK => ?_); (simp (disch := omega) only [go_sem, Nat.reduceBEq, ↓reduceIte, reduceCtorEq, Nat.reduceAdd, Nat.reduceLeDiff, v2, v1, v7, v8, v9, vHnx, f0, z0b])) | (refine zqd _ rfl ?_ ?_ <;> intro hc <;> (((try simp only [z03] at hc); (try omega)))) | refine zqa ?_ | refine zqb ?_ | (refine hK _ ?_; clear hK K))
  refine z3q ((ac_meet na bk hr hu hki (h4 _ hki) x s sm o ow p q (z06 u) (z5d u) (done ++ edN u i) hdl1 hin1 _ _ ?_ ?_).mono ?_)
  ·refine hF.later (by (simp (disch := omega) only [go_sem]); all_goals omega) fun id hid c1 c2 c3 => ?_
   refine Eq.trans ?_ (vp3 id hid c1 c2 c3)
   (simp (disch := omega) only [go_sem])
  ·refine vp2.later ?_ ?_ ?_
   ·have := hF.lsm; (simp (disch := omega) only [go_sem])
   ·have := hF.lo; (simp (disch := omega) only [go_sem])
   ·have := hF.low; (simp (disch := omega) only [go_sem])
  rintro r1 H1 n1 ⟨rfl, hn1, hI1, hk1⟩
  have hn1 : n1 = st.nx + 1 := by rw [hn1]; (simp (disch := omega) only [go_sem])
  subst hn1
  have hk1 : ∀ id, id < st.nx + 1 -> id ≠ sm -> id ≠ o -> id ≠ ow -> H1 id = (if id = st.nx then some (.box 27 (z06 u.kids[i])) else st.H id) := fun id hid c1 c2 c3 => by
   refine (hk1 id (by (simp (disch := omega) only [go_sem]); all_goals omega) c1 c2 c3).trans ?_
   (simp (disch := omega) only [go_sem])
   by_cases e : id = st.nx
   ·subst e; simp
   ·simp only [z28 e, cond_false, if_neg e]
  have lsm := hF.lsm
  have lo := hF.lo
  have low := hF.low
  have hb1 : H1 st.nx = some (.box 27 (z06 u.kids[i])) := (hk1 _ (by omega) (by omega) (by omega) (by omega)).trans (if_pos rfl)
  have hb2 : H1 nx = some (.box 27 (z06 u)) := (hk1 _ (by omega) (by omega) (by omega) (by omega)).trans ((if_neg (by omega)).trans vHnx)
  have hk2 : ∀ id, id < nx -> id ≠ sm -> id ≠ o -> id ≠ ow -> H1 id = H id := fun id hid c1 c2 c3 => (hk1 id (by omega) c1 c2 c3).trans ((if_neg (by omega)).trans (vp3 id hid c1 c2 c3))
  clear hk1
  repeat' (first | ((refine zqr fun K hK => ?_); (simp (disch := omega) only [go_sem, Nat.reduceBEq, ↓reduceIte, Nat.reduceAdd, Nat.reduceLeDiff, v1, hb1])) | (refine hK _ ?_; clear hK K))
  refine z3q ((ih _ hki (z0z B u hu _ (z0i hki (z09 _))) (h4 _ hki) (done ++ edN u i ++ [(u, u.kids[i])]) (by simp only [List.length_append, List.length_cons, List.length_nil]; omega) (.inr ⟨(u, u.kids[i]), by simp, rfl⟩) _ _ ?_ ?_).mono ?_)
  ·refine hF.later (by (simp (disch := omega) only [go_sem]); all_goals omega) fun id hid c1 c2 c3 => ?_
   (simp (disch := omega) only [go_sem])
   exact hk2 id hid c1 c2 c3
  ·(simp (disch := omega) only [go_sem])
   exact hI1
  rintro r2 H2 n2 ⟨rfl, hn2, hI2, hk3⟩
  have hn2 : n2 = st.nx + 1 := by rw [hn2]; (simp (disch := omega) only [go_sem])
  subst hn2
  have hk3 : ∀ id, id < st.nx + 1 -> id ≠ sm -> id ≠ o -> id ≠ ow -> H2 id = H1 id := fun id hid c1 c2 c3 => by
   refine (hk3 id (by (simp (disch := omega) only [go_sem]); all_goals omega) c1 c2 c3).trans ?_
   (simp (disch := omega) only [go_sem])
  have F : H2 nx = some (.box 27 (z06 u)) := (hk3 _ (by omega) (by omega) (by omega) (by omega)).trans hb2
  have hn' : done ++ edN u i ++ [(u, u.kids[i])] ++ edT u.kids[i] = done ++ edN u (i + 1) := by rw [hn]; simp only [List.append_assoc]
  rw [hn'] at hI2
  (try (simp (disch := omega) only [go_sem])); repeat' (first | refine zqv ?_ | refine zqy ?_ | (refine hK _ ?_; clear hK K))
  refine ⟨_, SealTo.refl _, ?_⟩
  repeat' (first | ((refine zqr fun K hK => ?_); (simp (disch := omega) only [go_sem, Nat.reduceBEq, ↓reduceIte, v9])) | (refine hK _ ?_; clear hK K))
  (refine Exists.intro _ (And.intro ?_ ⟨i + 1, rfl, ?_⟩)); rotate_left; (simp (disch := omega) only [go_sem, Nat.reduceBEq, v2, v1, v7, v8, v9, true_and, Int.natCast_add, Int.natCast_one]); rotate_left
  ·omega
  ·exact ⟨F, by omega, hI2, fun id hid c1 c2 c3 => (hk3 id (by omega) c1 c2 c3).trans (hk2 id hid c1 c2 c3)⟩
 ·repeat' (first | ((refine zqh fun K hK => ?_); (simp (disch := omega) only [go_sem, ↓reduceIte, v8, v9])) | (refine zqd _ rfl ?_ ?_ <;> intro hc <;> (((try simp only [z03] at hc); (try omega)))) | refine zqc ?_ | refine zqz ?_ | refine zqp ?_ | refine zqu (by simp only [go_sem]; rfl) rfl ?_ | (refine hK _ ?_; clear hK K))
  have hil : i = u.kids.length := by omega
  subst hil
  rw [edN_all] at vp2
  (simp (disch := omega) only [go_sem])
  exact ⟨vp2, vp3⟩
set_option maxHeartbeats 16000000 in
theorem ac_each {A B : T} (na : (idsT A).Nodup) (bk : z39 B = true) (hr : A.id = B.id) (fb : Fit50 B) (x s sm o ow p q : Nat) (H : HM) (nx : Nat) (hF : MvF A B x s sm o ow p q nx H) (hsm : H sm = some (.map (setI []))) (ho : H o = some (.box 56 [.osl ow 0])) (how : H ow = some (.row 23 0 [])) :
  AC prog 97 [z1f B, .fn 98 [.ptr x 0, .ptr s 0, .ptr o 0]] H nx fun r' H' nx' => r' = .tup [] /\ nx' = nx /\ MvI A B sm o ow (edT B) H' /\ ∀ id, id < nx -> id ≠ sm -> id ≠ o -> id ≠ ow -> H' id = H id := by
 obtain ⟨O, _, nb⟩ := (z1p B).1 bk
 suffices h : AC prog 97 [z1f B, .fn 98 [.ptr x 0, .ptr s 0, .ptr o 0]] H nx fun r' H' _ => r' = .tup [] /\ MvI A B sm o ow (edT B) H' /\ ∀ id, id < nx -> id ≠ sm -> id ≠ o -> id ≠ ow -> H' id = H id by
  refine (zaa h fun r H' nx' ⟨hr, hi, O⟩ => ⟨by rw [hr]; rfl, zsm hi hF.low O⟩).mono ?_
  rintro r H2 n2 ⟨rfl, H', nx', ⟨hr, hi, O⟩, rfl⟩
  have hc : ∀ {id}, id < n2 -> zse n2 H' id = H' id := fun h => if_pos h
  exact ⟨hr, rfl, hi.later (hc hF.lsm) (hc hF.lo) (hc hF.low), fun id hid c1 c2 c3 => (hc hid).trans (O id hid c1 c2 c3)⟩
 have lsm := hF.lsm
 have lo := hF.lo
 have low := hF.low
 have hH0 : ∀ id, id < nx -> z17 H nx (some (.box 27 (z06 B))) id = H id := fun id hid => z2v _ (by omega)
 have hF1 : MvF A B x s sm o ow p q (nx + 1) (z17 H nx (some (.box 27 (z06 B)))) := hF.later (by omega) fun id hid _ _ _ => hH0 id hid
 refine (z23 [] func97 rfl (by decide +kernel) rfl ?_)
 show awp _ _ (Code.seq _ _) _ _
 repeat' (first | ((refine zqh fun K hK => ?_); (simp (disch := omega) only [go_sem, Nat.reduceBEq, ↓reduceIte, Nat.reduceAdd, Nat.reduceLeDiff])) | (refine hK _ ?_; clear hK K))
 refine z3q ((zkq A B B _ ?_ x s sm o ow p q na fb.sz (fun y hy => by rw [hr]; exact z6e nb (z09 B) hy) (z30 nb (z09 B)) [] [] List.nodup_nil (Nat.zero_le _) _ _ ?_ ?_ ?_ ?_ ?_ ?_ ?_ ?_ ?_ ?_ ?_ ?_ hF.psm hF.so (fun e => by have h9 := hF.hx; rw [e, hF.hs] at h9; cases h9)).mono ?_)
 ·rfl
 ·exact hF1.lx
 ·exact hF1.ls
 ·exact hF1.lsm
 ·exact hF1.lo
 ·exact hF1.low
 ·exact hF1.lp
 ·exact hF1.hx
 ·exact hF1.hs
 ·exact (hH0 sm lsm).trans hsm
 ·exact (hH0 o lo).trans ho
 ·exact (hH0 ow low).trans how
 ·exact hF1.hp
 rintro r1 H1 n1 ⟨rfl, hn1, l', g1, g2, g3, g4, g5, hk1⟩
 have hn1 : n1 = nx + 1 := hn1
 subst hn1
 have hk1 : ∀ id, id < nx + 1 -> id ≠ sm -> id ≠ o -> id ≠ ow -> H1 id = z17 H nx (some (.box 27 (z06 B))) id := hk1
 have ho0 : zrc A B l' [] = [] := if_neg fun h => h.2.1 O
 rw [ho0] at g4 g5
 have hI1 : MvI A B sm o ow [] H1 := ⟨fun e he => (by cases he), ⟨l', g1, fun i => (g2 i).trans ⟨fun h => h.elim (fun h => by cases h) .inl, fun h => h.elim .inr fun ⟨e, he, _⟩ => by cases he⟩, g3⟩, g4, g5⟩
 have hb : H1 nx = some (.box 27 (z06 B)) := (hk1 nx (by omega) (by omega) (by omega) (by omega)).trans (if_pos rfl)
 repeat' (first | ((refine zqr fun K hK => ?_); (simp (disch := omega) only [go_sem, Nat.reduceBEq, ↓reduceIte, Nat.reduceAdd, Nat.reduceLeDiff, hb])) | (refine hK _ ?_; clear hK K))
 refine z3q ((zx9 na bk hr x s sm o ow p q B (z09 B) fb.sz [] (by have h1 := z009 B; have h2 := fb.cnt; rw [List.length_nil]; omega) (.inl rfl) _ _ ?_ ?_).mono ?_)
 ·exact hF1.later (Nat.le_refl _) fun id hid c1 c2 c3 => hk1 id hid c1 c2 c3
 ·exact hI1
 rintro r2 H2 n2 ⟨rfl, _, hI2, hk2⟩
 have hk2 : ∀ id, id < nx + 1 -> id ≠ sm -> id ≠ o -> id ≠ ow -> H2 id = H1 id := hk2
 (try (simp (disch := omega) only [go_sem])); repeat' (first | refine zqu (by simp only [go_sem]; rfl) rfl ?_ | (refine hK _ ?_; clear hK K))
 exact ⟨rfl, hI2, fun id hid c1 c2 c3 => (hk2 id (by omega) c1 c2 c3).trans ((hk1 id (by omega) c1 c2 c3).trans (hH0 id hid))⟩
set_option maxHeartbeats 16000000 in
theorem zsn {A B : T} (fa : Fit50 A) (fb : Fit50 B) (ba : z39 A = true) (bk : z39 B = true) (p q : Nat) (H : HM) (nx : Nat) (hp : p < nx) (hHp : H p = some (.map (mapI encPl (plcs A)))) :
  AC prog 76 [.agg (cellsPr A B p q)] H nx fun r' H' nx' => r' = renD (fun j => nx + j) (.osl 0 (zg4 A B).length) /\ H' = zjc H nx [.row 23 (zg4 A B).length ((zg4 A B).flatMap cellsId)] /\ nx' = nx + 1 := by
 have na := ((z1p A).1 ba).2.2
 have nb := ((z1p B).1 bk).2.2
 have hr : A.id = B.id := (z5t ba).trans (z5t bk).symm
 have e1 := z05 hp
 have e2 := zbh hp
 refine zw1 rfl (fun o ho => by rw [List.mem_singleton] at ho; subst ho; exact z15 (fun _ => rfl) _) (z23 [] func76 rfl (by decide +kernel) rfl ?_)
 show awp _ _ (Code.seq _ _) _ _
 repeat' (first | ((refine z1n (N := 1) rfl fun K hK => ?_); (simp (disch := omega) only [go_sem, ↓reduceIte])) | (refine hK _ ?_; clear hK K))
 refine z3k fun K hK => ?_
 (simp (disch := omega) only [go_sem])
 refine hK _ _ (zle (b := nx + 1) (e := 56) 23 (by (simp (disch := omega) only [go_sem, e1]))) ?_
 clear hK K
 repeat' (first | ((refine zqh fun K hK => ?_); (simp (disch := omega) only [go_sem, Nat.reduceBEq, ↓reduceIte, reduceCtorEq, Nat.reduceAdd, Nat.reduceLeDiff, Nat.reduceLT, e1, e2])) | (refine hK _ ?_; clear hK K))
 refine z3q ((ac_each na bk hr fb nx (nx + 4) (nx + 3) (nx + 1) (nx + 2) p q _ _ ?_ ?_ ?_ ?_).mono ?_)
 ·refine ⟨?_, ?_, ?_, ?_, ?_, ?_, ?_, ?_, ?_, by omega, by omega, by omega, by omega, by omega, by omega, by omega, by omega, by omega⟩
  all_goals first | omega | ((simp (disch := omega) only [go_sem, e1, e2, hHp]); all_goals omega)
 ·(simp (disch := omega) only [go_sem, e1, e2])
  all_goals rfl
 ·(simp (disch := omega) only [go_sem, e1, e2])
 ·(simp (disch := omega) only [go_sem, e1, e2])
 rintro r1 H1 n1 ⟨rfl, hn1, hI, O⟩
 have hn1 : n1 = nx + 5 := hn1
 subst hn1
 have O : ∀ id, id < nx -> H1 id = H id := fun id hid => (O id (by show id < nx + 5; omega) (by omega) (by omega) (by omega)).trans (by
  (simp (disch := omega) only [go_sem])
  simp (disch := omega) only [z0h])
 have hb1 := hI.ho
 have hb2 := hI.how
 rw [znp] at hb1 hb2
 repeat' (first | ((refine zqh fun K hK => ?_); (simp (disch := omega) only [go_sem, Nat.reduceBEq, ↓reduceIte, Nat.reduceAdd, hb1])) | refine zqn ?_ | refine zqu (by simp only [go_sem]; rfl) rfl ?_ | (refine hK _ ?_; clear hK K))
 refine ⟨fun id hid => O id hid, fun _ => nx + 2, fun i j hi hj _ => ?_, fun _ _ => ?_, ?_, fun j hj => ?_⟩
 ·simp only [List.length_cons, List.length_nil] at hi hj; omega
 ·show nx <= nx + 2; omega
 ·rfl
 ·simp only [List.length_cons, List.length_nil] at hj
  obtain rfl : j = 0 := by omega
  exact hb2
set_option maxHeartbeats 16000000 in
theorem zso (A B : T) (fa : Fit50 A) (fb : Fit50 B) : PC prog 46 [z1f A, z1f B] (z0q (if zag A B = true then zg4 A B else [])) := by
 have c1 := zz5 A B fa fb
 refine z2f 3 (by simp only [pureD.pureL, z0a, Bool.and_self]) (z34 _) (z23 [] func46 rfl (by decide +kernel) rfl ?_)
 show awp _ _ (Code.seq _ _) _ _
 cases hc : zag A B
 ·have e1 : z8m A B = [] := by unfold z8m; rw [hc]; rfl
  have e2 : za4 A B = .tup [.agg zeroPr, .bool false] := by unfold za4; rw [hc]; rfl
  rw [e1, e2] at c1
  repeat' (first | refine zqj ?_ | ((first | refine zqh fun K hK => ?_ | refine zbk (c1) ?_); (simp (disch := omega) only [go_sem, Nat.reduceBEq, ↓reduceIte, Nat.reduceAdd, Nat.reduceLeDiff])) | (refine zqd _ rfl ?_ ?_ <;> intro hc <;> (first | (cases hc; done) | ((try simp only [] at hc); (try omega)))) | refine zqg ?_ | refine zqu (by simp only [go_sem]; rfl) rfl ?_ | (refine hK _ ?_; clear hK K))
  rw [if_neg (by decide)]
  exact z18 rfl (Le.nil 3)
 ·have e1 : z8m A B = [.map (mapI encPl (plcs A)), .map (mapI encPl (plcs B))] := by unfold z8m; rw [hc]; rfl
  have e2 : za4 A B = .tup [.agg (cellsPr A B 0 1), .bool true] := by unfold za4; rw [hc]; rfl
  rw [e1, e2] at c1
  obtain ⟨ba, bb, _⟩ := (zfo A B).1 hc
  have hren : renD.renL (fun j => 2 + j) (cellsPr A B 0 1) = cellsPr A B 2 3 := by rw [z2i, z2i]; rfl
  repeat' (first | refine zqj ?_ | ((first | refine zqh fun K hK => ?_ | refine zbk (c1) ?_); (simp (disch := omega) only [go_sem, Nat.reduceBEq, ↓reduceIte, Nat.reduceAdd, Nat.reduceLeDiff, hren])) | (refine zqd _ rfl ?_ ?_ <;> intro hc <;> (first | (cases hc; done) | ((try simp only [] at hc); (try omega)))) | refine zqb ?_ | (refine hK _ ?_; clear hK K))
  refine zko (zsn fa fb ba bb 2 3 _ _ ?_ ?_) ?_
  ·show 2 < 5; decide
  ·(simp (disch := omega) only [go_sem, Nat.reduceBEq])
  (try (simp (disch := omega) only [go_sem, Nat.reduceBEq, Nat.reduceAdd])); repeat' (first | refine zqn ?_ | refine zqu (by simp only [go_sem]; rfl) rfl ?_ | (refine hK _ ?_; clear hK K))
  rw [if_pos rfl]
  refine z47 (nx := 0) ?_
  refine z0t (f := cellsId) (l := zg4 A B) 1 ?_ z6l z8l (fun _ => rfl) (fun _ => rfl)
  (simp (disch := omega) only [go_sem, Nat.reduceBEq])
end
section
open Abs Facts Tr
attribute [local irreducible] awp
set_option maxRecDepth 100000
namespace Tr
theorem zun {A B : T} (nb : (idsT B).Nodup) : (zg4 A B).Nodup := by
 rw [ed_ids, List.nodup_cons] at nb
 exact ((List.filter_sublist (l := edT B)).map _).nodup nb.2
theorem zmu (t : T) : ((nodesT t).map unP).map (·.1) = idsT t := by rw [List.map_map]; rfl
theorem zh8 {A B : T} {ls : List Nat} {i : Nat} {x : T} (h : ∀ j ∈ ls, ∀ y, (nodesT A)[j]? = some y -> (!z26 y.id B || decide ((findR y.id B).1.kind = y.kind)) = true) (hx : (nodesT A)[i]? = some x) (O : (!z26 x.id B || decide ((findR x.id B).1.kind = x.kind)) = true) :
  ∀ j ∈ ls ++ [i], ∀ y, (nodesT A)[j]? = some y -> (!z26 y.id B || decide ((findR y.id B).1.kind = y.kind)) = true := by
 intro j hj y hy
 rcases List.mem_append.1 hj with hj | hj
 ·exact h j hj y hy
 ·rw [List.mem_singleton] at hj
  subst hj
  rw [hx, Option.some.injEq] at hy
  rw [<- hy]; exact O
end Tr
def HeldK (A B : T) (H : HM) (r' : D) (H' : HM) (nx' : Nat) : Prop := (∀ id, id < 3 -> H' id = H id) /\ r' = .tup [.agg [.mp 6, .mp 7, .mp 8], .bool (zag A B)] /\ 9 <= nx' /\ (zag A B = true -> H' 6 = some (zca A) /\ H' 7 = some (zca B) /\ H' 8 = some (.map (setI (zg4 A B))))
theorem z7x {A B : T} {H H' : HM} {nx' : Nat} (h : zag A B = false) (O : ∀ id, id < 3 -> H' id = H id) (hn : 9 <= nx') : HeldK A B H (.tup [.agg [.mp 6, .mp 7, .mp 8], .bool false]) H' nx' := ⟨O, by rw [h], hn, fun h2 => by rw [h] at h2; cases h2⟩
set_option maxHeartbeats 32000000 in
theorem zyz (A B : T) (fa : Fit50 A) (fb : Fit50 B) (H : HM) : AC prog 22 [z1f A, z1f B] H 3 (HeldK A B H) := by
 have cca := fa.cnt
 have ccb := fb.cnt
 have cda := fa.dep
 have cdb := fb.dep
 have c1 := zhr A fa.sz (by omega) (by omega)
 have c2 := zhr B fb.sz (by omega) (by omega)
 have c3 := zds A (zg3 A fa.sz) (by omega)
 have c4 := zds B (zg3 B fb.sz) (by omega)
 have c5 := znx 6 A fa.sz []
 have c6 := znx 7 B fb.sz []
 have c7 := zso A B fa fb
 rw [List.nil_append] at c5 c6
 have hla : (mapI z1f ((nodesT A).map unP)).length = (z1l (idsT A)).length := by rw [ze1, zmu]
 have hlb : (mapI z1f ((nodesT B).map unP)).length = (z1l (idsT B)).length := by rw [ze1, zmu]
 have lea : (z1l (idsT A)).length <= cntT A := by have := (z3l (idsT A)).2.2.1; unfold idsT at this ⊢; unfold cntT; rwa [List.length_map] at this
 have leb : (z1l (idsT B)).length <= cntT B := by have := (z3l (idsT B)).2.2.1; unfold idsT at this ⊢; unfold cntT; rwa [List.length_map] at this
 have hma : (.map [] : HObj) = .map (mapI z1f []) := rfl
 have bad : ∀ {b : Bool}, b = false -> ¬ (b = true) := fun h => by rw [h]; decide
 have noA : z39 A = false -> zag A B = false := fun h => by unfold zag; rw [h]; rfl
 have noB : z39 B = false -> zag A B = false := fun h => by unfold zag; rw [h]; simp
 refine zaq func22 rfl (by decide +kernel) (by simp [ntmps22]) ?_
 rw [show Tryz.f22.results.toList = [.cell 4 52, .tmp 5] from rfl]
 refine Sem.seq (Sem.walk (own := []) z6z (by decide +kernel) ?_)
 repeat' (first | ((refine zqr fun K hK => ?_); (simp (disch := omega) only [go_sem, Nat.reduceBEq, Nat.reduceAdd])) | refine zqv ?_ | (refine hK _ ?_; clear hK K))
 refine Sem.seq (Sem.walk (own := []) z6z (by decide +kernel) ?_)
 repeat' (first | ((refine zqr fun K hK => ?_); (simp (disch := omega) only [go_sem, Nat.reduceBEq, ↓reduceIte, Nat.reduceAdd, Nat.reduceLeDiff])) | refine zqv ?_ | (refine hK _ ?_; clear hK K))
 refine Sem.seq (Sem.walk (own := []) z6z (by decide +kernel) ?_)
 by_cases ka : A.kind = 0
 rotate_left
 ·repeat' (first | ((refine zqh fun K hK => ?_); (simp (disch := omega) only [go_sem, Nat.reduceBEq, ↓reduceIte, reduceCtorEq, Nat.reduceAdd, Nat.reduceLeDiff, ka])) | ((refine zqm _ rfl (fun hc => ?_) (fun hc => ?_)) <;> (first | (cases hc; done) | ((try simp only [] at hc); (try omega)))) | refine zqn ?_ | refine zqx ?_ | refine zqu (by (simp (disch := omega) only [go_sem, Nat.reduceBEq, ↓reduceIte, Nat.reduceAdd, Nat.reduceLeDiff]); rfl) rfl ?_ | (refine hK _ ?_; clear hK K))
  refine z7x (noA (by rw [zam]; simp [ka])) (fun id hid => ?_) (by show 9 <= 10; decide)
  (simp (disch := omega) only [go_sem])
  simp (disch := omega) only [z0h]
 by_cases kb : B.kind = 0
 rotate_left
 ·repeat' (first | ((refine zqh fun K hK => ?_); (simp (disch := omega) only [go_sem, Nat.reduceBEq, ↓reduceIte, reduceCtorEq, Nat.reduceAdd, Nat.reduceLeDiff, ka, kb])) | ((refine zqm _ rfl (fun hc => ?_) (fun hc => ?_)) <;> (first | (cases hc; done) | ((try simp only [] at hc); (try omega)))) | refine zqn ?_ | refine zqx ?_ | refine zqu (by (simp (disch := omega) only [go_sem, Nat.reduceBEq, ↓reduceIte, Nat.reduceAdd, Nat.reduceLeDiff]); rfl) rfl ?_ | (refine hK _ ?_; clear hK K))
  refine z7x (noB (by rw [zam]; simp [kb])) (fun id hid => ?_) (by show 9 <= 10; decide)
  (simp (disch := omega) only [go_sem])
  simp (disch := omega) only [z0h]
 cases va : z6r A
 ·rw [va] at c1
  repeat' (first | ((first | refine zqh fun K hK => ?_ | refine zqs (c1) ?_); (simp (disch := omega) only [go_sem, Nat.reduceBEq, ↓reduceIte, reduceCtorEq, Nat.reduceAdd, Nat.reduceLeDiff, ka, kb])) | ((refine zqm _ rfl (fun hc => ?_) (fun hc => ?_)) <;> (first | (cases hc; done) | ((try simp only [] at hc); (try omega)))) | refine zqn ?_ | refine zqx ?_ | refine zqu (by (simp (disch := omega) only [go_sem, Nat.reduceBEq, ↓reduceIte, Nat.reduceAdd, Nat.reduceLeDiff]); rfl) rfl ?_ | (refine hK _ ?_; clear hK K))
  refine z7x (noA (by rw [zam]; simp [va])) (fun id hid => ?_) (by show 9 <= 10; decide)
  (simp (disch := omega) only [go_sem])
  simp (disch := omega) only [z0h]
 rw [va] at c1
 cases vb : z6r B
 ·rw [vb] at c2
  repeat' (first | ((first | refine zqh fun K hK => ?_ | refine zqs (c1) ?_ | refine zqs (c2) ?_); (simp (disch := omega) only [go_sem, Nat.reduceBEq, ↓reduceIte, reduceCtorEq, Nat.reduceAdd, Nat.reduceLeDiff, ka, kb])) | ((refine zqm _ rfl (fun hc => ?_) (fun hc => ?_)) <;> (first | (cases hc; done) | ((try simp only [] at hc); (try omega)))) | refine zqn ?_ | refine zqx ?_ | refine zqu (by (simp (disch := omega) only [go_sem, Nat.reduceBEq, ↓reduceIte, Nat.reduceAdd, Nat.reduceLeDiff]); rfl) rfl ?_ | (refine hK _ ?_; clear hK K))
  refine z7x (noB (by rw [zam]; simp [vb])) (fun id hid => ?_) (by show 9 <= 10; decide)
  (simp (disch := omega) only [go_sem])
  simp (disch := omega) only [z0h]
 rw [vb] at c2
 repeat' (first | ((first | refine zqh fun K hK => ?_ | refine zqs (c1) ?_ | refine zqs (c2) ?_); (simp (disch := omega) only [go_sem, Nat.reduceBEq, ↓reduceIte, reduceCtorEq, Nat.reduceAdd, Nat.reduceLeDiff, ka, kb])) | ((refine zqm _ rfl (fun hc => ?_) (fun hc => ?_)) <;> (first | (cases hc; done) | ((try simp only [] at hc); (try omega)))) | refine zqk ?_ | refine zqv ?_ | (refine hK _ ?_; clear hK K))
 refine Sem.seq (Sem.walk (own := []) z6z (by decide +kernel) ?_)
 repeat' (first | ((first | refine zqr fun K hK => ?_ | ((refine ziw (c5) ?_ ?_ ?_); (focus ((simp (disch := omega) only [go_sem, Nat.reduceBEq]); done)); (focus (((simp (disch := omega) only [go_sem]); done))))); (simp (disch := omega) only [go_sem, Nat.reduceBEq, ↓reduceIte, reduceCtorEq, Nat.reduceAdd, Nat.reduceLeDiff, hma])) | refine zqv ?_ | (refine hK _ ?_; clear hK K))
 refine Sem.seq (Sem.walk (own := []) z6z (by decide +kernel) ?_)
 repeat' (first | ((first | refine zqr fun K hK => ?_ | ((refine ziw (c6) ?_ ?_ ?_); (focus ((simp (disch := omega) only [go_sem, Nat.reduceBEq]); done)); (focus (((simp (disch := omega) only [go_sem]); done))))); (simp (disch := omega) only [go_sem, Nat.reduceBEq, ↓reduceIte, reduceCtorEq, Nat.reduceAdd, Nat.reduceLeDiff])) | refine zqv ?_ | (refine hK _ ?_; clear hK K))
 refine Sem.seq (Sem.walk (own := []) z6z (by decide +kernel) ?_)
 have ba : z39 A = true ↔ (idsT A).Nodup := by rw [z1p]; exact ⟨fun h => h.2.2, fun h => ⟨ka, va, h⟩⟩
 have bb : z39 B = true ↔ (idsT B).Nodup := by rw [z1p]; exact ⟨fun h => h.2.2, fun h => ⟨kb, vb, h⟩⟩
 by_cases na : (idsT A).Nodup
 rotate_left
 ·have h1 : ¬ ((((z1l (idsT A)).length : Nat) : Int) = (cntT A : Int)) := fun h => na ((zal A).1 h)
  repeat' (first | ((first | refine zqh fun K hK => ?_ | refine zqs (c3) ?_); (simp (disch := omega) only [go_sem, Nat.reduceBEq, ↓reduceIte, reduceCtorEq, Nat.reduceAdd, Nat.reduceLeDiff, hla, h1])) | ((refine zqm _ rfl (fun hc => ?_) (fun hc => ?_)) <;> (first | (cases hc; done) | ((try simp only [] at hc); (try omega)))) | refine zqn ?_ | refine zqx ?_ | refine zqu (by (simp (disch := omega) only [go_sem, Nat.reduceBEq, ↓reduceIte, Nat.reduceAdd, Nat.reduceLeDiff]); rfl) rfl ?_ | (refine hK _ ?_; clear hK K))
  refine z7x (noA (by cases h : z39 A with | false => rfl | true => exact absurd (ba.1 h) na)) (fun id hid => ?_) (by show 9 <= 10; decide)
  (simp (disch := omega) only [go_sem])
  simp (disch := omega) only [z0h]
 have ea : (((z1l (idsT A)).length : Nat) : Int) = (cntT A : Int) := (zal A).2 na
 by_cases nb : (idsT B).Nodup
 rotate_left
 ·have h1 : ¬ ((((z1l (idsT B)).length : Nat) : Int) = (cntT B : Int)) := fun h => nb ((zal B).1 h)
  repeat' (first | ((first | refine zqh fun K hK => ?_ | refine zqs (c3) ?_ | refine zqs (c4) ?_); (simp (disch := omega) only [go_sem, Nat.reduceBEq, ↓reduceIte, reduceCtorEq, Nat.reduceAdd, Nat.reduceLeDiff, hla, hlb, ea, h1])) | ((refine zqm _ rfl (fun hc => ?_) (fun hc => ?_)) <;> (first | (cases hc; done) | ((try simp only [] at hc); (try omega)))) | refine zqn ?_ | refine zqx ?_ | refine zqu (by (simp (disch := omega) only [go_sem, Nat.reduceBEq, ↓reduceIte, Nat.reduceAdd, Nat.reduceLeDiff]); rfl) rfl ?_ | (refine hK _ ?_; clear hK K))
  refine z7x (noB (by cases h : z39 B with | false => rfl | true => exact absurd (bb.1 h) nb)) (fun id hid => ?_) (by show 9 <= 10; decide)
  (simp (disch := omega) only [go_sem])
  simp (disch := omega) only [z0h]
 have eb : (((z1l (idsT B)).length : Nat) : Int) = (cntT B : Int) := (zal B).2 nb
 repeat' (first | ((first | refine zqh fun K hK => ?_ | refine zqs (c3) ?_ | refine zqs (c4) ?_); (simp (disch := omega) only [go_sem, Nat.reduceBEq, ↓reduceIte, reduceCtorEq, Nat.reduceAdd, Nat.reduceLeDiff, hla, hlb, ea, eb])) | ((refine zqm _ rfl (fun hc => ?_) (fun hc => ?_)) <;> (first | (cases hc; done) | ((try simp only [] at hc); (try omega)))) | refine zqk ?_ | refine zqv ?_ | (refine hK _ ?_; clear hK K))
 clear c1 c2 c3 c4 c5 c6
 have hcm : zag A B = z4j A B := by unfold zag; rw [ba.2 na, bb.2 nb]; rfl
 have nk : (((nodesT A).map unP).map (·.1)).Nodup := by rw [zmu]; exact na
 refine Sem.seq (Sem.rangeL (own := []) 2 z6z rfl rfl rfl ⟨rfl, rfl, rfl⟩ ⟨rfl, rfl, rfl⟩ ⟨rfl, rfl, rfl⟩ ⟨rfl, rfl, rfl⟩ mapT49 (by decide +kernel) (by decide +kernel) (by decide +kernel) ?_)
 (simp (disch := omega) only [go_sem, Nat.reduceBEq, ↓reduceIte, reduceCtorEq, Nat.reduceAdd, List.take_succ_cons, List.take_zero, List.map_cons, List.map_nil])
 refine ⟨6, mapI z1f ((nodesT A).map unP), rfl, by (simp (disch := omega) only [go_sem, Nat.reduceBEq]), fun M J => ⟨fun ls st => st.H 6 = some M /\ st.H 10 = some (J ls) /\ st.t 61 = .it 10 /\ st.t 2 = .ptr 3 0 /\ st.t 3 = .ptr 4 0 /\ st.t 4 = .ptr 5 0 /\ st.t 6 = .ptr 9 0 /\ st.H 3 = some (.box 27 (z06 A)) /\ st.H 4 = some (.box 27 (z06 B)) /\ st.H 5 = some (.box 52 [.nmp, .nmp, .nmp]) /\ st.H 9 = some (.box 52 [.mp 6, .mp 7, .mp 8]) /\ st.H 7 = some (.map (mapI z1f ((nodesT B).map unP))) /\ st.H 8 = some (.map []) /\
  11 <= st.nx /\ (∀ id, id < 3 -> st.H id = H id) /\ ∀ j ∈ ls, ∀ y, (nodesT A)[j]? = some y -> (!z26 y.id B || decide ((findR y.id B).1.kind = y.kind)) = true, ?_, ?_, ?_, ?_⟩⟩
 ·rintro ls st ⟨g1, g2, g3, _⟩
  refine ⟨g1, ?_, ?_⟩
  ·(simp (disch := omega) only [go_sem])
   exact g2
  ·(simp (disch := omega) only [go_sem])
   exact g3
 ·unfold zt6
  (simp (disch := omega) only [go_sem, Nat.reduceBEq, Nat.reduceAdd, Nat.reduceLeDiff, true_and])
  refine ⟨rfl, fun id hid => ?_, fun j hj => by cases hj⟩
  simp (disch := omega) only [z0h]
 ·rintro ls st i k v ⟨g1, g2, g3, g4, g5, g6, g7, g8, g9, g10, g11, g12, g13, g14, g15, g16⟩ hnd hlt hil hkv
  obtain ⟨e, he, rfl, rfl⟩ := ztr nk hkv
  rw [List.getElem?_map, Option.map_eq_some_iff] at he
  obtain ⟨y, hy, rfl⟩ := he
  have s3 := z05 (show 3 < st.nx by omega)
  have s4 := z05 (show 4 < st.nx by omega)
  have s5 := z05 (show 5 < st.nx by omega)
  have s6 := z05 (show 6 < st.nx by omega)
  have s7 := z05 (show 7 < st.nx by omega)
  have s8 := z05 (show 8 < st.nx by omega)
  have s9 := z05 (show 9 < st.nx by omega)
  have s10 := z05 (show 10 < st.nx by omega)
  unfold zt7
  rw [show (unP y).1 = y.id from rfl, show (unP y).2 = y from rfl]
  rcases zav nb y.id with ⟨hB, _, n, hf⟩ | ⟨hB, _, hf⟩
  ·by_cases O : (findR y.id B).1.kind = y.kind
   ·(simp (disch := omega) only [go_sem, Nat.reduceBEq, ↓reduceIte, Nat.reduceAdd, Nat.reduceLeDiff])
    repeat' (first | ((refine zqh fun K hK => ?_); (simp (disch := omega) only [go_sem, Nat.reduceBEq, ↓reduceIte, reduceCtorEq, Nat.reduceAdd, Nat.reduceLeDiff, s3, s7, s9, s10, g7, g11, g12, hf, O])) | ((refine zqm _ rfl (fun hc => ?_) (fun hc => ?_)) <;> (first | (cases hc; done) | ((try simp only [] at hc); (try omega)))) | refine zqk ?_ | (refine hK _ ?_; clear hK K))
    refine zgp ?_
    (simp (disch := omega) only [go_sem, Nat.reduceBEq, Nat.reduceLeDiff, s3, s4, s5, s6, s7, s8, s9, s10, g1, g2, g3, g4, g5, g6, g7, g8, g9, g10, g11, g12, g13, true_and])
    exact ⟨by omega, fun id hid => by simp (disch := omega) only [z0h]; exact g15 id hid, zh8 g16 hy (by rw [O]; simp)⟩
   ·(simp (disch := omega) only [go_sem, Nat.reduceBEq, ↓reduceIte, Nat.reduceAdd, Nat.reduceLeDiff])
    repeat' (first | ((refine zqh fun K hK => ?_); (simp (disch := omega) only [go_sem, Nat.reduceBEq, ↓reduceIte, reduceCtorEq, Nat.reduceAdd, Nat.reduceLeDiff, s3, s5, s7, s9, s10, g6, g7, g10, g11, g12, hf, O])) | ((refine zqm _ rfl (fun hc => ?_) (fun hc => ?_)) <;> (first | (cases hc; done) | ((try simp only [] at hc); (try omega)))) | refine zqn ?_ | (refine hK _ ?_; clear hK K))
    refine rndK_r ?_
    have hkf : zag A B = false := by
     rw [hcm]
     unfold z4j
     rw [List.all_eq_false]
     exact ⟨y, List.mem_of_getElem? hy, by rw [hB]; simp [O]⟩
    repeat' (first | refine zqx ?_ | refine zqu (by (simp (disch := omega) only [go_sem, Nat.reduceBEq, ↓reduceIte, Nat.reduceAdd, Nat.reduceLeDiff, s5, g6, g10]); rfl) rfl ?_)
    refine z7x hkf (fun id hid => ?_) ?_
    ·(simp (disch := omega) only [go_sem])
     simp (disch := omega) only [z0h]
     exact g15 id hid
    ·(simp (disch := omega) only [go_sem, Nat.reduceLeDiff])
     all_goals omega
  ·(simp (disch := omega) only [go_sem, Nat.reduceBEq, ↓reduceIte, Nat.reduceAdd, Nat.reduceLeDiff])
   repeat' (first | ((refine zqh fun K hK => ?_); (simp (disch := omega) only [go_sem, Nat.reduceBEq, ↓reduceIte, reduceCtorEq, Nat.reduceAdd, Nat.reduceLeDiff, s3, s7, s9, s10, g7, g11, g12, hf])) | ((refine zqm _ rfl (fun hc => ?_) (fun hc => ?_)) <;> (first | (cases hc; done) | ((try simp only [] at hc); (try omega)))) | refine zqk ?_ | (refine hK _ ?_; clear hK K))
   refine zgp ?_
   (simp (disch := omega) only [go_sem, Nat.reduceBEq, Nat.reduceLeDiff, s3, s4, s5, s6, s7, s8, s9, s10, g1, g2, g3, g4, g5, g6, g7, g8, g9, g10, g11, g12, g13, true_and])
   exact ⟨by omega, fun id hid => by simp (disch := omega) only [z0h]; exact g15 id hid, zh8 g16 hy (by rw [hB]; rfl)⟩
 ·rintro ls st ⟨g1, g2, g3, g4, g5, g6, g7, g8, g9, g10, g11, g12, g13, g14, g15, g16⟩ hnd hlt hall
  unfold zm4
  refine zqv (Sem.walk (own := []) z6z (by decide +kernel) ?_)
  have hkt : z4j A B = true := by
   unfold z4j
   rw [List.all_eq_true]
   intro y hy
   obtain ⟨i, hi, e⟩ := List.getElem_of_mem hy
   exact g16 i (hall i (by rw [zk0 nk, List.length_map]; exact hi)) y (by rw [List.getElem?_eq_getElem hi, e])
  rw [hkt] at hcm
  rw [if_pos hcm] at c7
  repeat' (first | refine zqj ?_ | ((first | refine zqh fun K hK => ?_ | refine zqs (c7) ?_); (simp (disch := omega) only [go_sem, Nat.reduceBEq, ↓reduceIte, Nat.reduceAdd, Nat.reduceLeDiff, g4, g5, g8, g9])) | refine zqa ?_ | (refine hK _ ?_; clear hK K))
  obtain ⟨L, hL⟩ : ∃ L, L = zg4 A B := ⟨_, rfl⟩
  have hLn : L.Nodup := by rw [hL]; exact zun nb
  have hLl : L.length <= 1000000 := by rw [hL, <- znp]; have h1 := zsk A (edT B); have h2 := z009 B; omega
  (refine z3i (fun U st => ∃ (i : Nat), U = L.length - i /\ st.t 4 = .ptr 5 0 /\ st.t 6 = .ptr 9 0 /\ st.t 85 = z0q L /\ st.t 86 = .int .i64 L.length /\ st.t 87 = .int .i64 i /\ st.H (5) = some (.box 52 [.nmp, .nmp, .nmp]) /\ st.H (9) = some (.box 52 [.mp 6, .mp 7, .mp 8]) /\ st.H (6) = some (.map (mapI z1f ((nodesT A).map unP))) /\ st.H (7) = some (.map (mapI z1f ((nodesT B).map unP))) /\ st.H (8) = some (.map (setI (L.take i))) /\ (i <= L.length) /\ (11 <= st.nx) /\ (∀ id, id < 3 -> st.H id = H id)) ?_ ?_); rotate_left; (rintro U st ⟨i, rfl, w4, w6, w85, w86, w87, wH5, wH9, wH6, wH7, wH8, wp0, wp1, wp2⟩); rotate_left
  ·(refine ⟨_, 0, rfl, ?_⟩); (simp (disch := omega) only [go_sem, Nat.reduceBEq, true_and, Int.natCast_zero, z0q, hL, g6, g7, g10, g11, g12, g13])
   exact ⟨rfl, g14, fun id hid => by simp (disch := omega) only [z0h]; exact g15 id hid⟩
  have t5 := z05 (show 5 < st.nx by omega)
  have t6 := z05 (show 6 < st.nx by omega)
  have t7 := z05 (show 7 < st.nx by omega)
  have t8 := z05 (show 8 < st.nx by omega)
  have t9 := z05 (show 9 < st.nx by omega)
  by_cases hi : i < L.length
  ·have hnew : L[i] ∉ L.take i := by
    intro hmem
    obtain ⟨j, hj, e⟩ := List.getElem_of_mem hmem
    rw [List.length_take] at hj
    rw [List.getElem_take] at e
    have := (List.getElem_inj hLn).1 e
    omega
   have hfk := zcr L[i] (L.take i)
   rw [if_neg hnew] at hfk
   have hsn := zar (L.take i) L[i]
   have htk : L.take (i + 1) = L.take i ++ [L[i]] := List.take_succ_eq_append_getElem hi
   repeat' (first | ((first | refine zqh fun K hK => ?_ | refine zqr fun K hK => ?_); (simp (disch := omega) only [go_sem, Nat.reduceBEq, ↓reduceIte, reduceCtorEq, Nat.reduceAdd, Nat.reduceLeDiff, w6, w85, w86, w87, wH9, wH8, t8, t9, z0q, hfk, hsn])) | (refine zqd _ rfl ?_ ?_ <;> intro hc <;> (((try simp only [z03] at hc); (try omega)))) | refine zqa ?_ | refine zqb ?_ | refine zqv ?_ | refine zqy ?_ | (refine hK _ ?_; clear hK K))
   refine ⟨_, SealTo.refl _, ?_⟩
   repeat' (first | ((refine zqr fun K hK => ?_); (simp (disch := omega) only [go_sem, Nat.reduceBEq, ↓reduceIte, w87])) | (refine hK _ ?_; clear hK K))
   (refine Exists.intro _ (And.intro ?_ ⟨i + 1, rfl, ?_⟩)); rotate_left; (simp (disch := omega) only [go_sem, Nat.reduceBEq, Nat.reduceLeDiff, w4, w6, w85, w86, w87, wH5, wH9, wH6, wH7, wH8, true_and, Int.natCast_add, Int.natCast_one, t5, t6, t7, t8, t9, htk]); rotate_left
   ·omega
   ·exact ⟨by omega, by omega, fun id hid => by simp (disch := omega) only [z0h]; exact wp2 id hid⟩
  ·repeat' (first | ((refine zqh fun K hK => ?_); (simp (disch := omega) only [go_sem, ↓reduceIte, w86, w87])) | (refine zqd _ rfl ?_ ?_ <;> intro hc <;> (((try simp only [z03] at hc); (try omega)))) | refine zqc ?_ | refine zqv ?_ | refine zqz ?_ | refine zqp ?_ | (refine hK _ ?_; clear hK K))
   refine ⟨_, SealTo.refl _, ?_⟩
   repeat' (first | ((refine zqh fun K hK => ?_); (simp (disch := omega) only [go_sem, Nat.reduceBEq, ↓reduceIte, Nat.reduceAdd, Nat.reduceLeDiff, w4, w6, wH5, wH9])) | refine zqn ?_ | refine zqu (by (simp (disch := omega) only [go_sem, Nat.reduceBEq, ↓reduceIte, Nat.reduceAdd, Nat.reduceLeDiff, w4, wH5]); rfl) rfl ?_ | (refine hK _ ?_; clear hK K))
   have hta : L.take i = L := List.take_of_length_le (by omega)
   rw [hta, hL] at wH8
   refine ⟨fun id hid => ?_, by rw [hcm], ?_, fun _ => ⟨?_, ?_, ?_⟩⟩
   ·(simp (disch := omega) only [go_sem])
    simp (disch := omega) only [z0h]
    exact wp2 id hid
   ·(simp (disch := omega) only [go_sem])
    all_goals omega
   ·(simp (disch := omega) only [go_sem, Nat.reduceBEq, wH6])
    rfl
   ·(simp (disch := omega) only [go_sem, Nat.reduceBEq, wH7])
    rfl
   ·(simp (disch := omega) only [go_sem, Nat.reduceBEq, wH8])
namespace Tr
def TT.zero : TT := .mk 0 0 Idv.zero ByteArray.empty ByteArray.empty false [] [] []
def zdm (A B : T) : TT × Int := if zag A B = true then (znh A B, 0) else (TT.zero, 1)
end Tr
set_option maxHeartbeats 16000000 in
theorem zms (A B : T) (fa : Fit50 A) (fb : Fit50 B) : PC prog 8 [z1f A, z1f B] (.tup [z58 (zdm A B).1, .int .i64 (zdm A B).2]) := by
 refine z2f 3 (by simp only [pureD.pureL, z0a, Bool.and_self]) (by simp only [pureD, pureD.pureL, z2j, Bool.and_self]) (z23 [] func8 rfl (by decide +kernel) rfl ?_)
 show awp _ _ (Code.seq _ _) _ _
 rw [show Tryz.f8.results.toList = [.cell 4 33, .tmp 5] from rfl]
 repeat' (first | ((refine zqh fun K hK => ?_); (simp (disch := omega) only [go_sem, Nat.reduceBEq, ↓reduceIte, Nat.reduceAdd, Nat.reduceLeDiff])) | (refine hK _ ?_; clear hK K))
 refine z3q ((zyz A B fa fb _).mono ?_)
 rintro r1 H1 n1 ⟨h1, rfl, h2, h3⟩
 have a0 : H1 0 = some (.box 27 (z06 A)) := h1 0 (by decide)
 have a1 : H1 1 = some (.box 27 (z06 B)) := h1 1 (by decide)
 have a2 : H1 2 = some (.box 33 [.int .i64 0, .int .i64 0, .int .i64 0, .int .i64 0, .int .i64 0, .str ByteArray.empty, .str ByteArray.empty, .bool false, .nil, .nil, .nil]) := h1 2 (by decide)
 have k0 := z05 (show 0 < n1 by omega)
 have k1 := z05 (show 1 < n1 by omega)
 have k2 := z05 (show 2 < n1 by omega)
 cases hc : zag A B
 ·have e : zdm A B = (TT.zero, 1) := by unfold zdm; rw [if_neg (by rw [hc]; decide)]
  (try (simp (disch := omega) only [go_sem, Nat.reduceBEq, ↓reduceIte, Nat.reduceAdd, Nat.reduceLeDiff])); repeat' (first | refine nxt ?_ | ((refine zqh fun K hK => ?_); (simp (disch := omega) only [go_sem, Nat.reduceBEq, ↓reduceIte, Nat.reduceAdd, Nat.reduceLeDiff, a2, k2])) | (refine zqd _ rfl ?_ ?_ <;> intro hc <;> (first | (cases hc; done) | ((try simp only [] at hc); (try omega)))) | refine zqu (by (simp (disch := omega) only [go_sem, Nat.reduceBEq, ↓reduceIte, Nat.reduceAdd, Nat.reduceLeDiff, a2, k2]); rfl) rfl ?_ | (refine hK _ ?_; clear hK K))
  rw [e]
  refine z18 (nx := 0) rfl ?_
  show Le _ (D.tup [z58 TT.zero, D.int IntKind.i64 1])
  rw [z58, z10]
  exact Le.tup ⟨Le.agg ⟨Le.refl _, Le.refl _, Le.refl _, Le.refl _, Le.refl _, Le.refl _, Le.refl _, Le.refl _, Le.nil 2, Le.nil 2, Le.nil 11, trivial⟩, Le.refl _, trivial⟩
 ·obtain ⟨g6, g7, g8⟩ := h3 hc
  have e : zdm A B = (znh A B, 0) := by unfold zdm; rw [if_pos hc]
  have k6 := z05 (show 6 < n1 by omega)
  have k7 := z05 (show 7 < n1 by omega)
  have k8 := z05 (show 8 < n1 by omega)
  have cf := fun H nx h1 h2 h3 h4 h5 h6 => zyb A B (zg4 A B) (zlh hc) fa.sz fb.sz 6 7 8 B (z09 B) fb.sz H nx h1 h2 h3 h4 h5 h6
  (try (simp (disch := omega) only [go_sem, Nat.reduceBEq, ↓reduceIte, Nat.reduceAdd, Nat.reduceLeDiff])); repeat' (first | refine nxt ?_ | ((refine zqh fun K hK => ?_); (simp (disch := omega) only [go_sem, Nat.reduceBEq, ↓reduceIte, Nat.reduceAdd, Nat.reduceLeDiff, a1, k1])) | (refine zqd _ rfl ?_ ?_ <;> intro hc <;> (first | (cases hc; done) | ((try simp only [] at hc); (try omega)))) | (refine hK _ ?_; clear hK K))
  refine z41 (cf _ _ ?_ ?_ ?_ ?_ ?_ ?_) ?_
  ·(simp (disch := omega) only [go_sem])
   all_goals omega
  ·(simp (disch := omega) only [go_sem])
   all_goals omega
  ·(simp (disch := omega) only [go_sem])
   all_goals omega
  ·(simp (disch := omega) only [go_sem, k6])
   exact g6
  ·(simp (disch := omega) only [go_sem, k7])
   exact g7
  ·(simp (disch := omega) only [go_sem, k8])
   exact g8
  ·(try (simp (disch := omega) only [go_sem, Nat.reduceBEq, ↓reduceIte, Nat.reduceAdd, Nat.reduceLeDiff, a2, k2])); repeat' (first | refine nxt ?_ | refine zqu (by (simp (disch := omega) only [go_sem, Nat.reduceBEq, ↓reduceIte, Nat.reduceLeDiff, a2, k2]); rfl) rfl ?_ | (refine hK _ ?_; clear hK K))
   rw [e]
   refine z18 (nx := 0) (by simp only [pureD.pureL, pureD, z32, Bool.and_self]) ?_
   exact Le.refl _
namespace Tr
def secL (n : Int) (label : ByteArray) (l : List ByteArray) : T := .mk ⟨1, 0, n⟩ 2 label [] (l.map fun s => ⟨s, Idv.zero⟩) []
def zlx (ks : List T) : T := .mk Idv.zero 0 ByteArray.empty [] [] ks
def ex1 : T := secL 1 ⟨#[49]⟩ [⟨#[97]⟩, ⟨#[98]⟩]
def ex2 : T := secL 1 ⟨#[49]⟩ [⟨#[97]⟩, ⟨#[99]⟩]
def ex3 : T := secL 1 ⟨#[49]⟩ []
def ex4 : T := secL 2 ⟨#[50]⟩ []
def exK1 : TT := .mk 0 2 ⟨1, 0, 1⟩ ⟨#[49]⟩ ByteArray.empty false [] [⟨0, ⟨#[97]⟩⟩, ⟨2, ⟨#[98]⟩⟩, ⟨1, ⟨#[99]⟩⟩] []
def exK2 : TT := .mk 2 0 ⟨1, 0, 1⟩ ByteArray.empty ByteArray.empty true [] [] []
def exK3 : TT := .mk 0 2 ⟨1, 0, 2⟩ ⟨#[50]⟩ ByteArray.empty false [] [] []
def exK4 : TT := .mk 1 2 ⟨1, 0, 1⟩ ⟨#[49]⟩ ByteArray.empty true [] [] []
def exD1 : TT := .mk 0 0 Idv.zero ByteArray.empty ByteArray.empty false [] [] [exK1]
def exD2 : TT := .mk 0 0 Idv.zero ByteArray.empty ByteArray.empty false [] [] [exK2, exK3, exK4]
theorem exR1 : zdm (zlx [ex1]) (zlx [ex2]) = (exD1, 0) := by kernel_rfl
theorem exR2 : zdm (zlx [ex3, ex4]) (zlx [ex4, ex3]) = (exD2, 0) := by kernel_rfl
end Tr
theorem z6k (n : Int) (label : ByteArray) (l : List ByteArray) (hl : l.length <= 100) : PC prog 21 [.int .i64 n, .str label, z1e l] (z1f (secL n label l)) := by
 refine z2f 4 (by simp only [pureD.pureL, z1t, pureD, Bool.and_self]) (z0a _) (z23 [] func21 rfl (by decide +kernel) rfl ?_)
 show awp _ _ (Code.seq _ _) _ _
 rw [show Tryz.f21.results.toList = [.cell 6 27] from rfl]
 repeat' (first | refine nxt ?_ | ((refine z1n (N := 2) rfl fun K hK => ?_); (simp (disch := omega) only [go_sem, Nat.reduceBEq, ↓reduceIte, Nat.reduceAdd, Nat.reduceLeDiff])) | (refine hK _ ?_; clear hK K))
 refine z3k fun K hK => ?_
 (simp (disch := omega) only [go_sem])
 refine hK _ _ (z7k (b := 1) (off := 6) (e := 27) 82 (by (simp (disch := omega) only [go_sem, Nat.reduceBEq]); rfl) rfl) ?_
 clear hK K
 repeat' (refine zqa ?_)
 (refine z3i (fun U st => ∃ (i : _), U = l.length - i /\ st.t 2 = z1e l /\ st.t 6 = .ptr 0 0 /\ st.t 7 = .ptr 1 0 /\ st.t 8 = .int .i64 i /\ st.H (0) = some (.box 27 [.int .i64 0, .int .i64 0, .int .i64 0, .int .i64 0, .str ByteArray.empty, .nil, .nil, .nil]) /\ st.H (1) = some (.box 27 [.int .i64 1, .int .i64 0, .int .i64 n, .int .i64 2, .str label, .nil, .osl 2 i, .nil]) /\ st.H (2) = some (.row 82 i (((l.take i).map fun s => (⟨s, Idv.zero⟩ : Wd)).flatMap zc4)) /\ st.nx = 3 /\ (i <= l.length)) ?_ ?_); rotate_left; (rintro U st ⟨i, rfl, q2, q6, q7, q8, qH0, qH1, qH2, qnx, qp0⟩); rotate_left
 ·(refine ⟨_, 0, rfl, ?_⟩); (simp (disch := omega) only [go_sem, Nat.reduceBEq, Nat.reduceAdd, and_self, Int.natCast_zero, List.flatMap_nil, List.map_nil, z1e])
 by_cases hi : i < l.length
 ·repeat' (first | refine nxt ?_ | ((first | refine zqh fun K hK => ?_ | refine zqr fun K hK => ?_ | refine zqq (by decide +kernel) fun K hK => ?_); (simp (disch := omega) only [go_sem, Nat.reduceBEq, ↓reduceIte, reduceCtorEq, Nat.reduceAdd, Nat.reduceMul, Nat.reduceLeDiff, Nat.reduceLT, q2, q7, q8, qH1, qH2, qnx, z1e])) | (refine zqd _ rfl ?_ ?_ <;> intro hc <;> (((try simp only [z03] at hc); (try omega)))) | refine Abs.zqv ?_ | (refine hK _ ?_; clear hK K))
  (refine Exists.intro _ (And.intro ?_ ⟨i + 1, rfl, ?_⟩)); rotate_left; (simp (disch := omega) only [go_sem, Nat.reduceBEq, q2, q6, q7, q8, qH0, qH1, qH2, true_and, Int.natCast_add, Int.natCast_one, List.flatMap_append, List.flatMap_cons, List.flatMap_nil, List.map_append, List.map_cons, List.map_nil, List.append_nil, List.take_succ_eq_append_getElem hi, zc4]); rotate_left
  ·omega
  ·exact ⟨rfl, by omega⟩
 ·repeat' (first | refine nxt ?_ | ((refine zqh fun K hK => ?_); (simp (disch := omega) only [go_sem, Nat.reduceBEq, ↓reduceIte, Nat.reduceAdd, Nat.reduceLeDiff, q2, q6, q7, q8, qH0, qH1, qnx, z1e])) | (refine zqd _ rfl ?_ ?_ <;> intro hc <;> (((try simp only [z03] at hc); (try omega)))) | refine Abs.zqv ?_ | refine zqz ?_ | refine zqu (by (simp (disch := omega) only [go_sem, Nat.reduceBEq, ↓reduceIte, Nat.reduceAdd, Nat.reduceLeDiff, q6, qH0]); rfl) rfl ?_ | (refine hK _ ?_; clear hK K))
  have hie : i = (l.map fun s => (⟨s, Idv.zero⟩ : Wd)).length := by rw [List.length_map]; omega
  have hta : l.take i = l := List.take_of_length_le (by omega)
  rw [hta] at qH2
  rw [z1f, z0n]
  refine ⟨_, z8s (k := 3) (by simp [pureD.pureL, pureD]) (z04 (z02 2 rfl) (z04 (z02 2 rfl) (z04 (z02 2 rfl) (z04 (z02 2 rfl) (z04 (z02 2 rfl) (z04 (z02 2 rfl) (z04 ?_ (z04 (z02 2 rfl) z3r)))))))), Le.agg ⟨Le.refl _, Le.refl _, Le.refl _, Le.refl _, Le.refl _, Le.nil 4, Le.refl _, Le.nil 8, trivial⟩⟩
  rw [hie]
  refine z0t (f := zc4) (l := l.map fun s => (⟨s, Idv.zero⟩ : Wd)) 1 ?_ zor zuf (fun _ => rfl) (fun _ => rfl)
  rw [hie] at qH2
  (simp (disch := omega) only [go_sem, Nat.reduceBEq, qH2])
theorem zty (a b : T) : Le (.agg [.int .i64 0, .int .i64 0, .int .i64 0, .int .i64 0, .str ByteArray.empty, .nil, .nil, .rsl true 8 [.agg (z06 a), .agg (z06 b)]]) (z1f (zlx [a, b])) := by
 rw [z1f, z0n (zlx [a, b])]
 exact Le.agg ⟨Le.refl _, Le.refl _, Le.refl _, Le.refl _, Le.refl _, Le.nil 4, Le.nil 4, Le.rsl, trivial⟩
theorem le_sec (a : T) : Le (.agg [.int .i64 0, .int .i64 0, .int .i64 0, .int .i64 0, .str ByteArray.empty, .nil, .nil, .rsl true 8 [.agg (z06 a)]]) (z1f (zlx [a])) := by
 rw [z1f, z0n (zlx [a])]
 exact Le.agg ⟨Le.refl _, Le.refl _, Le.refl _, Le.refl _, Le.refl _, Le.nil 4, Le.nil 4, Le.rsl, trivial⟩
theorem fit_ex : (Fit50 (zlx [ex1]) /\ Fit50 (zlx [ex2])) /\ Fit50 (zlx [ex3, ex4]) /\ Fit50 (zlx [ex4, ex3]) := by
 refine ⟨⟨⟨?_, ?_, ?_⟩, ⟨?_, ?_, ?_⟩⟩, ⟨?_, ?_, ?_⟩, ⟨?_, ?_, ?_⟩⟩ <;> decide +kernel
theorem zq7 : PC prog 6 [] (.bool true) := by
 obtain ⟨⟨f1, f2⟩, f3, f4⟩ := fit_ex
 have s1 : PC prog 21 [.int .i64 1, .str ⟨#[49]⟩, .rsl true 1 [.str ⟨#[97]⟩, .str ⟨#[98]⟩]] (z1f ex1) := PC.le (z6k 1 ⟨#[49]⟩ [⟨#[97]⟩, ⟨#[98]⟩] (by decide)) rfl ⟨Le.refl _, Le.refl _, Le.rsl, trivial⟩
 have s2 : PC prog 21 [.int .i64 1, .str ⟨#[49]⟩, .rsl true 1 [.str ⟨#[97]⟩, .str ⟨#[99]⟩]] (z1f ex2) := PC.le (z6k 1 ⟨#[49]⟩ [⟨#[97]⟩, ⟨#[99]⟩] (by decide)) rfl ⟨Le.refl _, Le.refl _, Le.rsl, trivial⟩
 have s3 : PC prog 21 [.int .i64 1, .str ⟨#[49]⟩, .nil] (z1f ex3) := PC.le (z6k 1 ⟨#[49]⟩ [] (by decide)) rfl ⟨Le.refl _, Le.refl _, Le.nil 1, trivial⟩
 have s4 : PC prog 21 [.int .i64 2, .str ⟨#[50]⟩, .nil] (z1f ex4) := PC.le (z6k 2 ⟨#[50]⟩ [] (by decide)) rfl ⟨Le.refl _, Le.refl _, Le.nil 1, trivial⟩
 have d1 : PC prog 8 [.agg [.int .i64 0, .int .i64 0, .int .i64 0, .int .i64 0, .str ByteArray.empty, .nil, .nil, .rsl true 8 [.agg (z06 ex1)]], .agg [.int .i64 0, .int .i64 0, .int .i64 0, .int .i64 0, .str ByteArray.empty, .nil, .nil, .rsl true 8 [.agg (z06 ex2)]]] _ := PC.le (zms (zlx [ex1]) (zlx [ex2]) f1 f2) (by simp only [pureD.pureL, pureD, z27, Bool.and_self]) ⟨le_sec ex1, le_sec ex2, trivial⟩
 have d2 : PC prog 8 [.agg [.int .i64 0, .int .i64 0, .int .i64 0, .int .i64 0, .str ByteArray.empty, .nil, .nil, .rsl true 8 [.agg (z06 ex3), .agg (z06 ex4)]], .agg [.int .i64 0, .int .i64 0, .int .i64 0, .int .i64 0, .str ByteArray.empty, .nil, .nil, .rsl true 8 [.agg (z06 ex4), .agg (z06 ex3)]]] _ := PC.le (zms (zlx [ex3, ex4]) (zlx [ex4, ex3]) f3 f4) (by simp only [pureD.pureL, pureD, z27, Bool.and_self]) ⟨zty ex3 ex4, zty ex4 ex3, trivial⟩
 rw [exR1] at d1
 rw [exR2] at d2
 refine z2f 1 rfl rfl (z23 [] func6 rfl (by decide +kernel) rfl ?_)
 show awp _ _ (Code.seq _ _) _ _
 repeat' (first | refine nxt ?_ | ((first | refine z1n (N := 3) rfl fun K hK => ?_ | refine zqs (s1) ?_ | refine zqs (s2) ?_ | refine zqs (s3) ?_ | refine zqs (s4) ?_ | refine zqs (d1) ?_ | refine zqs (d2) ?_); (simp (disch := omega) only [go_sem, Nat.reduceBEq, ↓reduceIte, reduceCtorEq, Nat.reduceAdd, Nat.reduceMul, Nat.reduceLeDiff])) | (refine hK _ ?_; clear hK K))
 have k1 : exD1.kids = [exK1] := rfl
 have k2 : exD2.kids = [exK2, exK3, exK4] := rfl
 have w1 : exK1.words = [⟨0, ⟨#[97]⟩⟩, ⟨2, ⟨#[98]⟩⟩, ⟨1, ⟨#[99]⟩⟩] := rfl
 have hi0 : ∀ (d : D) (ds : List D), zgb (d :: ds) 0 = some d := fun d ds => by unfold zgb; simp
 have hi1 : ∀ (d e : D) (ds : List D), zgb (d :: e :: ds) 1 = some e := fun d e ds => by unfold zgb; rw [if_pos (by simp only [List.length_cons]; omega)]; rfl
 have hi2 : ∀ (d e f : D) (ds : List D), zgb (d :: e :: f :: ds) 2 = some f := fun d e f ds => by unfold zgb; rw [if_pos (by simp only [List.length_cons]; omega)]; rfl
 have m1 : exK2.moved = true := rfl
 have m2 : exK2.state = 2 := rfl
 have m3 : exK2.label = ByteArray.empty := rfl
 have m4 : exK3.state = 0 := rfl
 have m5 : exK4.state = 1 := rfl
 have m6 : exK4.label = ⟨#[49]⟩ := rfl
 repeat' (first | ((refine zqh fun K hK => ?_); (simp (disch := omega) only [go_sem, Nat.reduceBEq, ↓reduceIte, reduceCtorEq, Nat.reduceAdd, Nat.reduceLeDiff, k1, k2, w1, hi0, hi1, hi2, m1, m2, m3, z88, z0k, zm8, z1q, List.map_cons, List.map_nil, List.length_cons, List.length_nil, List.append_eq, List.cons_append, List.nil_append])) | (refine zqd _ rfl ?_ ?_ <;> intro hc <;> (first | (cases hc; done) | ((try simp only [z03] at hc); (try omega)))) | refine nxt ?_ | refine zqu (by (simp (disch := omega) only [go_sem, Nat.reduceBEq]); rfl) rfl ?_ | (refine hK _ ?_; clear hK K))
 all_goals exact z00 rfl
theorem zyh (a b : T) (ha : zgq a = true) (hb : zgq b = true) : PC prog 7 [z1f a, z1f b] (.bool (zsb a 30 && zsb b 30)) := by
 have c1 := pc_Few a ha 30 (by decide) (by decide)
 have c2 := pc_Few b hb 30 (by decide) (by decide)
 refine z2f 1 (by simp only [pureD.pureL, z0a, Bool.and_self]) rfl (z23 [] func7 rfl (by decide +kernel) rfl ?_)
 show awp _ _ (Code.seq _ _) _ _
 cases h1 : zsb a 30 <;> cases h2 : zsb b 30
 all_goals
  rw [h1] at c1
  rw [h2] at c2
  repeat' (first | ((first | refine zqh fun K hK => ?_ | refine zqs (c1) ?_ | refine zqs (c2) ?_); (simp (disch := omega) only [go_sem, Nat.reduceBEq, ↓reduceIte, Nat.reduceAdd, Nat.reduceLeDiff])) | refine nxt ?_ | refine zqu (by simp only [go_sem]; rfl) rfl ?_ | (refine hK _ ?_; clear hK K))
  exact z00 rfl
end
section
open Abs Facts
attribute [local irreducible] awp
theorem rep_int (n : Nat) : (List.replicate n [D.int .i64 0]).flatten = (List.replicate n (0 : Int)).map (D.int .i64) := zbj (D.int .i64) 0 n
theorem zis (a b : List ByteArray) (ha : a.length <= 256) (hb : b.length <= 256) : PC prog 121 [z1e a, z1e b] (z44 (Lcs.tab a b)) := by
 refine z2f 2 (by simp only [pureD.pureL, z1t, Bool.and_self]) (z40 _) (z23 [] func121 rfl (by decide +kernel) rfl ?_)
 show awp _ _ (Code.seq _ _) _ _
 obtain ⟨n, hn⟩ : ∃ n, n = (a.length + 1) * (b.length + 1) := ⟨_, rfl⟩
 have hnle : n <= 66049 := by rw [hn]; exact Nat.mul_le_mul (show a.length + 1 <= 257 by omega) (show b.length + 1 <= 257 by omega)
 have hprod : ((a.length : Int) + 1) * ((b.length : Int) + 1) = (n : Int) := by rw [hn]; simp
 repeat' (first | refine nxt ?_ | ((refine zqh fun K hK => ?_); (simp (disch := omega) only [go_sem, Nat.reduceBEq, ↓reduceIte, Nat.reduceLT, hprod, rep_int])) | (refine hK _ ?_; clear hK K))
 (refine z3i (fun U st => ∃ (m : _) (cs : List Int), U = m + 1 /\ st.t 0 = z1e a /\ st.t 1 = z1e b /\ st.t 5 = .int .i64 ((b.length : Int) + 1) /\ st.t 6 = .osl 0 n /\ st.t 7 = .int .i64 ((m : Int) - 1) /\ st.H 0 = some (.row 3 n (cs.map (.int .i64))) /\ (m <= a.length) /\ (Lcs.Known a b cs m 0) /\ (1 <= st.nx)) ?_ ?_); rotate_left; (rintro U st ⟨m, cs, rfl, s0, s1, s5, s6, s7, sH0, sp0, sp1, sp2⟩); rotate_left
 ·refine ⟨_, a.length, List.replicate n 0, rfl, ?_⟩
  simp (disch := omega) only [go_sem, Nat.reduceBEq, Nat.reduceLeDiff, true_and, and_true]
  exact ⟨Nat.le_refl _, by rw [hn]; exact Lcs.known_zero a b⟩
 by_cases hm0 : m = 0
 ·subst hm0
  repeat' (first | refine nxt ?_ | ((refine zqh fun K hK => ?_); (simp (disch := omega) only [go_sem, Nat.reduceBEq, ↓reduceIte, s6, s7])) | (refine zqd _ rfl ?_ ?_ <;> intro hc <;> (first | (cases hc; done) | ((try simp only [decide_eq_false_iff_not] at hc); (try omega)))) | refine zqz ?_ | refine zqu (by simp only [go_sem]; rfl) rfl ?_ | (refine hK _ ?_; clear hK K))
  have := Lcs.known_all sp1
  subst this
  exact zj0 0 sH0 z2q z4m (by rw [List.length_map, Lcs.tab_len, hn]) (z0d (fun _ => rfl) _) rfl
 obtain ⟨i, rfl⟩ : ∃ i, m = i + 1 := ⟨m - 1, by omega⟩
 replace s7 : st.t 7 = .int .i64 (i : Int) := by rw [s7]; congr 1; omega
 repeat' (first | refine nxt ?_ | ((refine zqh fun K hK => ?_); (simp (disch := omega) only [go_sem, Nat.reduceBEq, ↓reduceIte, s1, s7])) | (refine zqd _ rfl ?_ ?_ <;> intro hc <;> (first | (cases hc; done) | ((try simp only [] at hc); (try omega)))) | (refine hK _ ?_; clear hK K))
 (refine z3i (fun U st => ∃ (k : _) (cs : List Int), U = k + 1 /\ st.t 0 = z1e a /\ st.t 1 = z1e b /\ st.t 5 = .int .i64 ((b.length : Int) + 1) /\ st.t 6 = .osl 0 n /\ st.t 7 = .int .i64 (i : Nat) /\ st.t 8 = .int .i64 ((k : Int) - 1) /\ st.H 0 = some (.row 3 n (cs.map (.int .i64))) /\ (k <= b.length) /\ (Lcs.Known a b cs i k) /\ (1 <= st.nx)) ?_ ?_); rotate_left; (rintro U st ⟨k, cs, rfl, t0, t1, t5, t6, t7, t8, tH0, tp0, tp1, tp2⟩); rotate_left
 ·refine ⟨_, b.length, cs, rfl, ?_⟩
  simp (disch := omega) only [go_sem, Nat.reduceBEq, true_and, s0, s1, s5, s6, s7, sH0]
  exact ⟨Nat.le_refl _, Lcs.known_row sp1, sp2⟩
 by_cases hk0 : k = 0
 ·subst hk0
  repeat' (first | refine nxt ?_ | ((first | refine zqh fun K hK => ?_ | refine zqr fun K hK => ?_); (simp (disch := omega) only [go_sem, Nat.reduceBEq, ↓reduceIte, t7, t8])) | (refine zqd _ rfl ?_ ?_ <;> intro hc <;> (first | (cases hc; done) | ((try simp only [decide_eq_false_iff_not] at hc); (try omega)))) | refine zqz ?_ | (refine hK _ ?_; clear hK K))
  (refine Exists.intro _ (And.intro ?_ ⟨i, cs, rfl, ?_⟩)); rotate_left; (simp (disch := omega) only [go_sem, Nat.reduceBEq, t0, t1, t5, t6, t7, tH0, true_and, Int.natCast_zero]); rotate_left
  ·omega
  ·exact ⟨by omega, tp1, tp2⟩
 obtain ⟨k', rfl⟩ : ∃ k', k = k' + 1 := ⟨k - 1, by omega⟩
 replace t8 : st.t 8 = .int .i64 (k' : Int) := by rw [t8]; congr 1; omega
 have hkn := tp1
 have v1 := hkn.2 (i + 1) k' (by omega) (by omega) (.inl (by omega))
 have v2 := hkn.2 i (k' + 1) (by omega) (by omega) (.inr (.inl ⟨rfl, by omega⟩))
 have v3 := hkn.2 (i + 1) (k' + 1) (by omega) (by omega) (.inl (by omega))
 have l1 := Lcs.at_le a b (i + 1) k'
 have l2 := Lcs.at_le a b i (k' + 1)
 have l3 := Lcs.at_le a b (i + 1) (k' + 1)
 have hcl : cs.length = n := by rw [hkn.1, hn]
 have hst := Lcs.at_step a b i k' (by omega) (by omega)
 have hlt : (i + 1) * (b.length + 1) + (k' + 1) < n := by rw [hn]; exact Lcs.idx_lt (by omega) (by omega)
 obtain ⟨p0, hp0⟩ : ∃ p0, p0 = i * (b.length + 1) := ⟨_, rfl⟩
 have hp1 : (i + 1) * (b.length + 1) = p0 + b.length + 1 := by rw [hp0, Nat.add_mul]; omega
 have e0 : (i : Int) * ((b.length : Int) + 1) = (p0 : Int) := by rw [hp0]; simp
 have e1 : ((i : Int) + 1) * ((b.length : Int) + 1) = (p0 : Int) + b.length + 1 := by
  have := congrArg (fun (x : Nat) => (x : Int)) hp1
  simpa using this
 rw [hp1] at v1 v3 hlt
 rw [<- hp0] at v2
 have v1' : cs[((p0 : Int) + b.length + 1 + k').toNat]? = some (Lcs.at_ a b (i + 1) k' : Int) := by rw [<- v1]; congr 1
 have v2' : cs[((p0 : Int) + k' + 1).toNat]? = some (Lcs.at_ a b i (k' + 1) : Int) := by rw [<- v2]; congr 1
 have v3' : cs[((p0 : Int) + b.length + 1 + k' + 1).toNat]? = some (Lcs.at_ a b (i + 1) (k' + 1) : Int) := by rw [<- v3]; congr 1
 have hidx : ((p0 : Int) + k').toNat = i * (b.length + 1) + k' := by rw [<- hp0]; omega
 have hks := Lcs.known_set (show i <= a.length by omega) (show k' <= b.length by omega) tp1
 rw [<- hidx] at hks
 repeat' (first | refine nxt ?_ | ((first | refine zqh fun K hK => ?_ | refine zqe (by decide +kernel) fun K hK => ?_ | refine zqr fun K hK => ?_); (simp (disch := omega) only [go_sem, Nat.reduceBEq, ↓reduceIte, reduceCtorEq, Nat.reduceAdd, Nat.reduceLT, t0, t1, t5, t6, t7, t8, tH0, e0, e1, v1', v2', v3', hcl, z98])) | (refine zqd _ rfl ?_ ?_ <;> intro hc <;> (first | (cases hc; done) | ((try simp only [z03] at hc); (try omega)))) | (refine hK _ ?_; clear hK K) | (refine zqf (fun hb => ?_) (fun hb => ?_) <;> (have hb2 := hb; try simp only [z03] at hb2) <;> ((first | have F := eq_false hb2 | have F := eq_true hb2); (simp (disch := omega) only [go_sem, Nat.reduceBEq, ↓reduceIte, reduceCtorEq, Nat.reduceAdd, F, t5, t6, t7, t8, tH0, e1, v3']); clear hb F; (try omega))))
 all_goals
  (try rw [if_pos (by assumption)] at hst)
  (try rw [if_neg (by assumption)] at hst)
  (refine Exists.intro _ (And.intro ?_ ⟨k', cs.set ((p0 : Int) + k').toNat (Lcs.at_ a b i k' : Int), rfl, ?_⟩)); rotate_left; (simp (disch := omega) only [go_sem, Nat.reduceBEq, t0, t1, t5, t6, t7, t8, tH0, true_and]); rotate_left
  ·omega
  ·refine ⟨congrArg (fun x => HObj.row 3 n ((cs.set ((p0 : Int) + k').toNat x).map (D.int .i64))) (by omega), by omega, hks, by omega⟩
theorem zwa (a b : List ByteArray) (i k m : Nat) (h : Lcs.at_ a b i k = m + 1) : Lcs.search a b (Lcs.at_ a b i k) k i = some (Lcs.next a b i k) := by
 unfold Lcs.next
 cases hs : Lcs.search a b (Lcs.at_ a b i k) k i with
 | some r => rfl
 | none =>
  obtain ⟨x, y, hx, hx', hy, hy', hg⟩ := Lcs.good_ex a b _ i k m (Nat.le_refl _) h
  have := Lcs.search_none hs hx hx' hy hy'
  rw [h] at this
  rw [hg] at this; cases this
theorem zwb (a b : List ByteArray) (i k : Nat) (z : Int) (hi : i <= a.length) (O : k <= b.length) (hz : z = ((i * (b.length + 1) + k : Nat) : Int)) : zgb ((Lcs.tab a b).map fun n => D.int .i64 n) z = some (.int .i64 (Lcs.at_ a b i k : Int)) := by
 have h1 := Lcs.tab_get a b i k hi O
 obtain ⟨h2, h3⟩ := List.getElem?_eq_some_iff.1 h1
 rw [hz, z2t (fun n => D.int .i64 n) _ _ h2, h3]
theorem zwc (a b : List ByteArray) (ha : a.length <= maxLen) (hb : b.length <= maxLen) : AC prog 105 [z1e a, z1e b] noH 0 fun d H _ =>
  d = .osl 0 (Lcs.pairs a b).length /\ H 0 = some (.row 90 (Lcs.pairs a b).length ((Lcs.pairs a b).flatMap z16)) := by
 unfold maxLen at ha hb
 refine (z23 [5, 14] func105 rfl (by decide +kernel) rfl ?_)
 show awp _ _ (Code.seq _ _) _ _
 by_cases hl : 256 < a.length \/ 256 < b.length
 ·repeat' (first | refine nxt ?_ | ((refine zqh fun K hK => ?_); (simp (disch := omega) only [go_sem, Nat.reduceBEq, ↓reduceIte, reduceCtorEq, Nat.reduceMul])) | (refine zqd _ rfl ?_ ?_ <;> intro hc <;> (first | (cases hc; done) | ((try simp only [z03] at hc); (try omega)))) | refine zqu (by simp only [go_sem]; rfl) rfl ?_ | (refine hK _ ?_; clear hK K) | (refine zqf (fun hb => ?_) (fun hb => ?_) <;> (have hb2 := hb; try simp only [z03] at hb2) <;> ((first | have F := eq_false hb2 | have F := eq_true hb2); (simp (disch := omega) only [go_sem, Nat.reduceBEq, ↓reduceIte, F]); clear hb F; (try omega))))
  all_goals first | (exfalso; omega) | skip
  all_goals
   rw [Lcs.pairs_long a b hl]
   exact ⟨rfl, rfl⟩
 have hpp : Lcs.pairs a b = Lcs.pairsFrom a b 0 0 := by unfold Lcs.pairs; rw [if_neg hl]
 have hplen : (Lcs.pairsFrom a b 0 0).length <= 256 := by rw [<- hpp]; exact (Lcs.pairs_le a b).1
 repeat' (first | refine nxt ?_ | ((first | refine zqh fun K hK => ?_ | refine zqs (zis a b (by omega) (by omega)) ?_); (simp (disch := omega) only [go_sem, Nat.reduceBEq, ↓reduceIte, reduceCtorEq, Nat.reduceMul])) | (refine zqd _ rfl ?_ ?_ <;> intro hc <;> (((try simp only [z03] at hc); (try omega)))) | (refine hK _ ?_; clear hK K) | (refine zqf (fun hb => ?_) (fun hb => ?_) <;> (have hb2 := hb; try simp only [z03] at hb2) <;> ((first | have F := eq_false hb2 | have F := eq_true hb2); (simp (disch := omega) only [go_sem, Nat.reduceBEq, ↓reduceIte, F]); clear hb F; (try omega))))
 (refine z3i (fun U st => ∃ (i : _) (k : _) (out : List (Nat × Nat)), U = Lcs.at_ a b i k + 1 /\ st.t 0 = z1e a /\ st.t 1 = z1e b /\ st.t 5 = .osl 0 out.length /\ st.t 6 = z44 (Lcs.tab a b) /\ st.t 7 = .int .i64 ((b.length : Int) + 1) /\ st.t 8 = .int .i64 (i : Nat) /\ st.t 9 = .int .i64 (k : Nat) /\ st.H 0 = some (.row 90 out.length (out.flatMap z16)) /\ (i <= a.length) /\ (k <= b.length) /\ (out ++ Lcs.pairsFrom a b i k = Lcs.pairsFrom a b 0 0) /\ (1 <= st.nx)) ?_ ?_); rotate_left; (rintro U st ⟨i, k, out, rfl, s0, s1, s5, s6, s7, s8, s9, sH0, sp0, sp1, sp2, sp3⟩); rotate_left
 ·(refine ⟨_, 0, 0, [], rfl, ?_⟩); (simp (disch := omega) only [go_sem, Nat.reduceBEq, Nat.reduceLeDiff, and_self, Int.natCast_zero, List.flatMap_nil, List.nil_append])
  try simp
 have hol := congrArg List.length sp2
 rw [List.length_append] at hol
 have e0 : (i : Int) * ((b.length : Int) + 1) = ((i * (b.length + 1) : Nat) : Int) := by simp
 have q0 := zwb a b i k (((i * (b.length + 1) : Nat) : Int) + k) sp0 sp1 (by simp)
 have b0 : i * (b.length + 1) <= 66049 := Nat.mul_le_mul (show i <= 257 by omega) (show b.length + 1 <= 257 by omega)
 by_cases hz : Lcs.at_ a b i k = 0
 ·have q0' := q0
  rw [hz] at q0'
  repeat' (first | refine nxt ?_ | ((refine zqh fun K hK => ?_); (simp (disch := omega) only [go_sem, Nat.reduceBEq, ↓reduceIte, reduceCtorEq, Nat.reduceAdd, s5, s6, s7, s8, s9, e0, q0'])) | (refine zqd _ rfl ?_ ?_ <;> intro hc <;> (first | (cases hc; done) | ((try simp only [decide_eq_false_iff_not] at hc); (try omega)))) | refine zqz ?_ | refine zqu (by simp only [go_sem]; rfl) rfl ?_ | (refine hK _ ?_; clear hK K))
  rw [Lcs.pairsFrom_nil a b i k hz, List.append_nil] at sp2
  rw [hpp, <- sp2]
  exact ⟨rfl, sH0⟩
 obtain ⟨m, hm⟩ : ∃ m, Lcs.at_ a b i k = m + 1 := ⟨Lcs.at_ a b i k - 1, by omega⟩
 have hse := zwa a b i k m hm
 have hcons := Lcs.pairsFrom_cons a b i k (by omega)
 rw [hcons] at sp2 hol
 simp only [List.length_cons] at hol
 have hatl := Lcs.at_le a b i k
 repeat' (first | refine nxt ?_ | ((refine zqh fun K hK => ?_); (simp (disch := omega) only [go_sem, Nat.reduceBEq, ↓reduceIte, reduceCtorEq, Nat.reduceAdd, s6, s7, s8, s9, e0, q0])) | (refine zqd _ rfl ?_ ?_ <;> intro hc <;> (((try simp only [z03] at hc); (try omega)))) | (refine hK _ ?_; clear hK K))
 obtain ⟨p, hp⟩ : ∃ p, p = Lcs.next a b i k := ⟨_, rfl⟩
 obtain ⟨g1, g2, g3, g4, g5, g6⟩ := Lcs.next_good a b i k m hm
 rw [<- hp] at g1 g2 g3 g4 g5 g6 hse sp2
 obtain ⟨n, hn⟩ : ∃ n, n = Lcs.at_ a b i k := ⟨_, rfl⟩
 rw [<- hn] at hse hatl
 (refine z3i (fun U st => ∃ (x : _) (fd : Bool) (i2 : _) (k2 : _) (out2 : List (Nat × Nat)), U = (if fd then 1 else a.length + 2 - x) /\ st.t 0 = z1e a /\ st.t 1 = z1e b /\ st.t 5 = .osl 0 out2.length /\ st.t 6 = z44 (Lcs.tab a b) /\ st.t 7 = .int .i64 ((b.length : Int) + 1) /\ st.t 8 = .int .i64 (i2 : Nat) /\ st.t 9 = .int .i64 (k2 : Nat) /\ st.t 10 = .int .i64 (n : Nat) /\ st.t 11 = .bool fd /\ st.t 12 = .int .i64 (x : Nat) /\ st.H 0 = some (.row 90 out2.length (out2.flatMap z16)) /\ (x <= a.length + 1) /\ (1 <= st.nx) /\ (fd = false -> i2 = i /\ k2 = k /\ out2 = out /\ i <= x /\ x <= a.length /\ Lcs.search a b n k x = some p) /\ (fd = true -> i2 = p.1 + 1 /\ k2 = p.2 + 1 /\ out2 = out ++ [p])) ?_ ?_); rotate_left; (rintro U st ⟨x, fd, i2, k2, out2, rfl, t0, t1, t5, t6, t7, t8, t9, t10, t11, t12, tH0, tp0, tp1, tp2, tp3⟩); rotate_left
 ·refine ⟨_, i, false, i, k, out, rfl, ?_⟩
  simp (disch := omega) only [go_sem, Nat.reduceBEq, true_and, s0, s1, s5, s6, s7, s8, s9, sH0]
  exact ⟨by rw [hn], by omega, sp3, fun _ => ⟨Nat.le_refl _, sp0, hse⟩, fun h => by cases h⟩
 cases fd with
 | true =>
  obtain ⟨rfl, rfl, rfl⟩ := tp3 rfl
  repeat' (first | refine nxt ?_ | ((refine zqh fun K hK => ?_); (simp (disch := omega) only [go_sem, Nat.reduceBEq, ↓reduceIte, t0, t12])) | (refine zqd _ rfl ?_ ?_ <;> intro hc <;> (first | (cases hc; done) | ((try simp only [] at hc); (try omega)))) | refine zqz ?_ | (refine hK _ ?_; clear hK K) | (refine zqf (fun hb => ?_) (fun hb => ?_) <;> (have hb2 := hb; try simp only [z03] at hb2) <;> ((first | have F := eq_false hb2 | have F := eq_true hb2); (simp (disch := omega) only [go_sem, Nat.reduceBEq, ↓reduceIte, F, t11]); clear hb F; (try omega))))
  all_goals
   (refine Exists.intro _ (And.intro ?_ ⟨p.1 + 1, p.2 + 1, out ++ [p], rfl, ?_⟩)); rotate_left; (simp (disch := omega) only [go_sem, Nat.reduceBEq, t0, t1, t5, t6, t7, t8, t9, tH0, true_and, Int.natCast_add, Int.natCast_one, List.flatMap_append, List.flatMap_cons, List.flatMap_nil, List.append_nil]); rotate_left
   ·omega
   ·refine ⟨by omega, by omega, by simpa using sp2, by omega⟩
 | false =>
  obtain ⟨rfl, rfl, rfl, tx1, tx2, tse⟩ := tp2 rfl
  by_cases hx : x < a.length
  ·have hstep := Lcs.search_step a b n k2 x hx
   rw [tse] at hstep
   repeat' (first | refine nxt ?_ | ((refine zqh fun K hK => ?_); (simp (disch := omega) only [go_sem, Nat.reduceBEq, ↓reduceIte, t0, t9, t12])) | (refine zqd _ rfl ?_ ?_ <;> intro hc <;> (first | (cases hc; done) | ((try simp only [] at hc); (try omega)))) | (refine hK _ ?_; clear hK K) | (refine zqf (fun hb => ?_) (fun hb => ?_) <;> (have hb2 := hb; try simp only [z03] at hb2) <;> ((first | have F := eq_false hb2 | have F := eq_true hb2); (simp (disch := omega) only [go_sem, Nat.reduceBEq, ↓reduceIte, F, t11]); clear hb F; (try omega))))
   (refine z3i (fun U st => ∃ (y : _) (fd : Bool) (i3 : _) (k3 : _) (out3 : List (Nat × Nat)), U = (if fd then 1 else b.length + 2 - y) /\ st.t 0 = z1e a /\ st.t 1 = z1e b /\ st.t 5 = .osl 0 out3.length /\ st.t 6 = z44 (Lcs.tab a b) /\ st.t 7 = .int .i64 ((b.length : Int) + 1) /\ st.t 8 = .int .i64 (i3 : Nat) /\ st.t 9 = .int .i64 (k3 : Nat) /\ st.t 10 = .int .i64 (n : Nat) /\ st.t 11 = .bool fd /\ st.t 12 = .int .i64 (x : Nat) /\ st.t 13 = .int .i64 (y : Nat) /\ st.H 0 = some (.row 90 out3.length (out3.flatMap z16)) /\ (y <= b.length + 1) /\ (1 <= st.nx) /\ (fd = false -> i3 = i2 /\ k3 = k2 /\ out3 = out2 /\ k2 <= y /\ y <= b.length /\ Lcs.inRow a b n x y = Lcs.inRow a b n x k2) /\ (fd = true -> i3 = p.1 + 1 /\ k3 = p.2 + 1 /\ out3 = out2 ++ [p])) ?_ ?_); rotate_left; (rintro U st ⟨y, fd, i3, k3, out3, rfl, u0, u1, u5, u6, u7, u8, u9, u10, u11, u12, u13, uH0, up0, up1, up2, up3⟩); rotate_left
   ·refine ⟨_, k2, false, i2, k2, out2, rfl, ?_⟩
    simp (disch := omega) only [go_sem, Nat.reduceBEq, true_and, and_true, t0, t1, t5, t6, t7, t8, t9, t10, t11, t12, tH0]
    exact ⟨by omega, by omega, fun _ => ⟨Nat.le_refl _, sp1⟩, fun h => by cases h⟩
   cases fd with
   | true =>
    obtain ⟨rfl, rfl, rfl⟩ := up3 rfl
    repeat' (first | refine nxt ?_ | ((first | refine zqh fun K hK => ?_ | refine zqr fun K hK => ?_); (simp (disch := omega) only [go_sem, Nat.reduceBEq, ↓reduceIte, u1, u12, u13])) | (refine zqd _ rfl ?_ ?_ <;> intro hc <;> (first | (cases hc; done) | ((try simp only [] at hc); (try omega)))) | refine zqz ?_ | (refine hK _ ?_; clear hK K) | (refine zqf (fun hb => ?_) (fun hb => ?_) <;> (have hb2 := hb; try simp only [z03] at hb2) <;> ((first | have F := eq_false hb2 | have F := eq_true hb2); (simp (disch := omega) only [go_sem, Nat.reduceBEq, ↓reduceIte, F, u11]); clear hb F; (try omega))))
    all_goals
     (refine Exists.intro _ (And.intro ?_ ⟨x + 1, true, p.1 + 1, p.2 + 1, out2 ++ [p], rfl, ?_⟩)); rotate_left; (simp (disch := omega) only [go_sem, Nat.reduceBEq, reduceCtorEq, Nat.reduceLeDiff, u0, u1, u5, u6, u7, u8, u9, u10, u11, u12, uH0, true_and, and_self, Int.natCast_add, Int.natCast_one, List.flatMap_append, List.flatMap_cons, List.flatMap_nil, List.append_nil]); rotate_left
     ·simp; omega
     ·exact ⟨by omega, by omega, fun h => h.elim, fun _ => trivial⟩
   | false =>
    obtain ⟨rfl, rfl, rfl, uy1, uy2, use⟩ := up2 rfl
    by_cases hy : y < b.length
    ·have hrow := Lcs.inRow_step a b n x y hy
     have e1 : ((x : Int) + 1) * ((b.length : Int) + 1) = (((x + 1) * (b.length + 1) : Nat) : Int) := by simp
     have q1 := zwb a b (x + 1) (y + 1) ((((x + 1) * (b.length + 1) : Nat) : Int) + y + 1) (by omega) (by omega) (by simp; omega)
     have b1 : (x + 1) * (b.length + 1) <= 66049 := Nat.mul_le_mul (show x + 1 <= 257 by omega) (show b.length + 1 <= 257 by omega)
     have hat1 := Lcs.at_le a b (x + 1) (y + 1)
     have hgd : Lcs.good a b n x y = (decide (a[x] = b[y]) && decide (Lcs.at_ a b (x + 1) (y + 1) + 1 = n)) := by
      unfold Lcs.good
      rw [List.getElem?_eq_getElem hx, List.getElem?_eq_getElem hy]; simp
     have hgT : a[x] = b[y] -> Lcs.at_ a b (x + 1) (y + 1) + 1 = n -> p.1 = x /\ p.2 = y := by
      intro h1 h2
      have h3 : Lcs.good a b n x y = true := by rw [hgd]; simp [h1, h2]
      rw [if_pos h3] at hrow
      rw [<- use, hrow] at hstep
      simp only [Option.some.injEq] at hstep
      rw [hstep]; exact ⟨rfl, rfl⟩
     have hgF : ¬ (a[x] = b[y] /\ Lcs.at_ a b (x + 1) (y + 1) + 1 = n) -> Lcs.inRow a b n x (y + 1) = Lcs.inRow a b n x k3 := by
      intro h1
      have h3 : ¬ Lcs.good a b n x y = true := by rw [hgd]; simpa using h1
      rw [if_neg h3] at hrow
      rw [<- use, hrow]
     repeat' (first | refine nxt ?_ | ((first | refine zqh fun K hK => ?_ | refine zqe (by decide +kernel) fun K hK => ?_ | refine zqr fun K hK => ?_); (simp (disch := omega) only [go_sem, Nat.reduceBEq, Nat.reduceEqDiff, ↓reduceIte, reduceCtorEq, Nat.reduceAdd, Nat.reduceMul, Nat.reduceLeDiff, u0, u1, u5, u12, u13, uH0])) | ((first | refine zqd _ rfl (fun hc => ?_) (fun hc => ?_) | refine zqm _ rfl (fun hc => ?_) (fun hc => ?_)) <;> (first | (cases hc; done) | ((try simp only [z03] at hc); (try omega)))) | (refine hK _ ?_; clear hK K) | (refine zqf (fun hb => ?_) (fun hb => ?_) <;> (have hb2 := hb; try simp only [z03] at hb2) <;> ((first | have F := eq_false hb2 | have F := eq_true hb2); (simp (disch := omega) only [go_sem, Nat.reduceBEq, Nat.reduceEqDiff, ↓reduceIte, reduceCtorEq, Nat.reduceAdd, F, u6, u7, u10, u11, u12, u13, e1, q1]); clear hb F; (try omega))))
     ·obtain ⟨px, py⟩ := hgT (by assumption) (by omega)
      (refine Exists.intro _ (And.intro ?_ ⟨y + 1, true, p.1 + 1, p.2 + 1, out3 ++ [p], rfl, ?_⟩)); rotate_left; (simp (disch := omega) only [go_sem, Nat.reduceBEq, reduceCtorEq, Nat.reduceLeDiff, u0, u1, u5, u6, u7, u8, u9, u10, u11, u12, u13, uH0, true_and, and_self, Int.natCast_add, Int.natCast_one, List.flatMap_append, List.flatMap_cons, List.flatMap_nil, List.append_nil, px, py, z16]); rotate_left
      ·simp; omega
      ·first | exact ⟨by omega, by omega, fun h => h.elim, fun _ => trivial⟩ | (simp; omega)
     ·have hr := hgF (by rintro ⟨_, h2⟩; omega)
      (refine Exists.intro _ (And.intro ?_ ⟨y + 1, false, i3, k3, out3, rfl, ?_⟩)); rotate_left; (simp (disch := omega) only [go_sem, Nat.reduceBEq, Nat.reduceLeDiff, u0, u1, u5, u6, u7, u8, u9, u10, u11, u12, u13, uH0, true_and, Int.natCast_add, Int.natCast_one]); rotate_left
      ·simp; omega
      ·exact ⟨by omega, by omega, fun _ => ⟨by omega, by omega, hr⟩, fun h => h.elim⟩
     ·have hr := hgF (by rintro ⟨h1, _⟩; exact (by assumption : ¬ a[x] = b[y]) h1)
      (refine Exists.intro _ (And.intro ?_ ⟨y + 1, false, i3, k3, out3, rfl, ?_⟩)); rotate_left; (simp (disch := omega) only [go_sem, Nat.reduceBEq, Nat.reduceLeDiff, u0, u1, u5, u6, u7, u8, u9, u10, u11, u12, u13, uH0, true_and, Int.natCast_add, Int.natCast_one]); rotate_left
      ·simp; omega
      ·exact ⟨by omega, by omega, fun _ => ⟨by omega, by omega, hr⟩, fun h => h.elim⟩
    ·have hnone := Lcs.inRow_end a b n x y (by omega)
     rw [use] at hnone
     rw [hnone] at hstep
     repeat' (first | refine nxt ?_ | ((first | refine zqh fun K hK => ?_ | refine zqr fun K hK => ?_); (simp (disch := omega) only [go_sem, Nat.reduceBEq, ↓reduceIte, u1, u12, u13])) | (refine zqd _ rfl ?_ ?_ <;> intro hc <;> (first | (cases hc; done) | ((try simp only [] at hc); (try omega)))) | refine zqz ?_ | (refine hK _ ?_; clear hK K) | (refine zqf (fun hb => ?_) (fun hb => ?_) <;> (have hb2 := hb; try simp only [z03] at hb2) <;> ((first | have F := eq_false hb2 | have F := eq_true hb2); (simp (disch := omega) only [go_sem, Nat.reduceBEq, ↓reduceIte, F, u11]); clear hb F; (try omega))))
     (refine Exists.intro _ (And.intro ?_ ⟨x + 1, false, i3, k3, out3, rfl, ?_⟩)); rotate_left; (simp (disch := omega) only [go_sem, Nat.reduceBEq, Nat.reduceLeDiff, u0, u1, u5, u6, u7, u8, u9, u10, u11, u12, uH0, true_and, Int.natCast_add, Int.natCast_one]); rotate_left
     ·simp; omega
     ·exact ⟨by omega, by omega, fun _ => ⟨by omega, by omega, hstep.symm⟩, fun h => h.elim⟩
  ·rw [Lcs.search_end a b n k2 x (by omega)] at tse
   cases tse
theorem zwd (a b : List ByteArray) (ha : a.length <= maxLen) (hb : b.length <= maxLen) : OC prog 105 [z1e a, z1e b] [.row 90 (Lcs.pairs a b).length ((Lcs.pairs a b).flatMap z16)] (.osl 0 (Lcs.pairs a b).length) :=
 ze7 (by simp only [pureD.pureL, z1t, Bool.and_self]) rfl (fun o ho => by simp at ho; subst ho; exact z15 (fun _ => rfl) _) ((zwc a b ha hb).mono fun d H nx h => by
  obtain ⟨rfl, hH⟩ := h
  refine ⟨fun _ => 0, fun i j hi hj _ => by simp at hi hj; omega, rfl, fun j hj => ?_⟩
  simp at hj; subst hj; exact hH)
theorem zzm {α : Type} (a b : List α) (k : Nat) (O : ¬ k < a.length) (hl : a.length = b.length) (h : a.take k = b.take k) : a = b := by
 rwa [List.take_of_length_le (by omega), List.take_of_length_le (by omega)] at h
theorem zvm {α : Type} (a b : List α) (k : Nat) (O : k < a.length) (hl : a.length = b.length) (h : a.take k = b.take k) (he : a[k] = b[k]) : a.take (k + 1) = b.take (k + 1) := by
 rw [List.take_succ_eq_append_getElem O, List.take_succ_eq_append_getElem (by omega), h, he]
theorem zzn (a b : List ByteArray) (ha : a.length <= maxLen) (hb : b.length <= maxLen) : PC prog 104 [z1e a, z1e b] (.bool (decide (a = b))) := by
 unfold maxLen at ha hb
 refine z2f 1 (by simp only [pureD.pureL, z1t, Bool.and_self]) rfl (z23 [] func104 rfl (by decide +kernel) rfl ?_)
 show awp _ _ (Code.seq _ _) _ _
 repeat' (first | refine nxt ?_ | ((refine zqh fun K hK => ?_); (simp (disch := omega) only [go_sem, Nat.reduceBEq, ↓reduceIte, z1e])) | (refine zqd _ rfl ?_ ?_ <;> intro hc <;> (((try simp only [z03] at hc); (try omega)))) | refine zqu (by simp only [go_sem]; rfl) rfl ?_ | (refine hK _ ?_; clear hK K))
 ·refine z00 ?_
  have : ¬ a = b := fun e => hc (by rw [e])
  simp [this]
 (refine z3i (fun U st => ∃ (k : _), U = a.length - k /\ st.t 0 = z1e a /\ st.t 1 = z1e b /\ st.t 5 = .int .i64 k /\ (k <= a.length) /\ (a.take k = b.take k)) ?_ ?_); rotate_left; (rintro U st ⟨k, rfl, s0, s1, s5, sp0, sp1⟩); rotate_left
 ·(refine ⟨_, 0, rfl, ?_⟩); (simp (disch := omega) only [go_sem, Nat.reduceBEq, and_self, Int.natCast_zero])
  try simp
 repeat' (first | refine nxt ?_ | ((first | refine zqh fun K hK => ?_ | refine zqe (by decide +kernel) fun K hK => ?_ | refine zqr fun K hK => ?_); (simp (disch := omega) only [go_sem, Nat.reduceBEq, ↓reduceIte, reduceCtorEq, Nat.reduceAdd, s0, s1, s5, z1e])) | ((first | refine zqd _ rfl (fun hc => ?_) (fun hc => ?_) | refine zqm _ rfl (fun hc => ?_) (fun hc => ?_)) <;> (((try simp only [z03] at hc); (try omega)))) | refine zqz ?_ | refine zqu (by simp only [go_sem]; rfl) rfl ?_ | (refine hK _ ?_; clear hK K))
 ·refine z00 ?_
  have : ¬ a = b := fun e => by subst e; exact hc rfl
  simp [this]
 ·(refine Exists.intro _ (And.intro ?_ ⟨k + 1, rfl, ?_⟩)); rotate_left; (simp (disch := omega) only [go_sem, Nat.reduceBEq, s0, s1, s5, true_and, Int.natCast_add, Int.natCast_one]); rotate_left
  ·omega
  ·exact ⟨by omega, zvm a b k (by omega) (by omega) sp1 (by assumption)⟩
 ·refine z00 ?_
  have := zzm a b k (by omega) (by omega) sp1
  simp [this]
end
section
open Abs Facts Tr
attribute [local irreducible] awp
theorem zpg {α β : Type} (f : α -> List β) (c : Nat) (hf : ∀ x, (f x).length = c) (l : List α) (n : Nat) (h : n < l.length) : ((l.flatMap f).drop (n * c)).take c = f l[n] := by
 induction l generalizing n with
 | nil => simp at h
 | cons x l ih =>
  cases n with
  | zero => simp; rw [List.take_left' (hf x)]
  | succ n =>
   simp only [List.flatMap_cons, List.getElem_cons_succ]
   have : (n + 1) * c = (f x).length + n * c := by rw [hf, Nat.add_mul]; omega
   rw [this, <- List.drop_drop, List.drop_left]
   exact ih n (by simpa using h)
def zno (a b : List ByteArray) : List (Nat × Nat) -> Nat -> Nat -> Prop
 | [], _, _ => True
 | p :: l, i, k => i <= p.1 /\ p.1 <= a.length /\ k <= p.2 /\ p.2 <= b.length /\ zno a b l (p.1 + 1) (p.2 + 1)
theorem zjd (a b : List ByteArray) : ∀ (l : List (Nat × Nat)) (i k : Nat), zem a b l i k -> i <= a.length -> k <= b.length -> zno a b (l ++ [(a.length, b.length)]) i k
 | [], i, k, _, h1, h2 => ⟨h1, Nat.le_refl _, h2, Nat.le_refl _, trivial⟩
 | p :: l, i, k, h, h1, h2 => by
  obtain ⟨q1, q2, q3, q4, q5, q6⟩ := h
  exact ⟨q1, by omega, q3, by omega, zjd a b l _ _ q6 (by omega) (by omega)⟩
theorem dfl {l : List (Nat × Nat)} {n : Nat} (h : n < l.length) : ((l.flatMap z16).drop (n * 2)).take 2 = z16 l[n] := zpg z16 2 (fun _ => rfl) l n h
theorem fl0 {l : List (Nat × Nat)} {n : Nat} (h : n < l.length) : (l.flatMap z16)[n * 2]? = some (.int .i64 (l[n].1 : Int)) := by
 have h1 := dfl h
 have h2 : ((l.flatMap z16).drop (n * 2)).take 2 = z16 l[n] := h1
 have h3 := congrArg (fun x => x[0]?) h2
 simpa [z16] using h3
theorem fl1 {l : List (Nat × Nat)} {n : Nat} (h : n < l.length) : (l.flatMap z16)[n * 2 + 1]? = some (.int .i64 (l[n].2 : Int)) := by
 have h2 : ((l.flatMap z16).drop (n * 2)).take 2 = z16 l[n] := dfl h
 have h3 := congrArg (fun x => x[1]?) h2
 simpa [z16] using h3
theorem zx8 (a b : List ByteArray) (ha : a.length <= 1000000) (hb : b.length <= 1000000) : PC prog 84 [z1e a, z1e b] (encE (z8e a b)) := by
  refine z2f 3 (by simp only [pureD.pureL, z1t, Bool.and_self]) (zt1 _) (z23 [8000000, 5, 10, 1000024, 1000026, 1000027, 1000029, 1000068, 1000077, 1000078, 1000087] func84 rfl (by decide +kernel) rfl ?_)
  show awp _ _ (Code.seq _ _) _ _
  have hpl := Lcs.pairs_le a b
  obtain ⟨ps, hps⟩ : ∃ ps, ps = Lcs.pairs a b ++ [(a.length, b.length)] := ⟨_, rfl⟩
  have hch := zjd a b _ 0 0 (z35 a b) (Nat.zero_le _) (Nat.zero_le _)
  rw [<- hps] at hch
  have hpsl : ps.length = (Lcs.pairs a b).length + 1 := by rw [hps]; simp
  by_cases hl : 256 < a.length \/ 256 < b.length
  · have hnil := Lcs.pairs_long a b hl
    have hD : ¬ a = b -> z8e a b = [⟨0, a, b⟩] := fun h => by
      unfold z8e
      rw [if_neg (fun h2 => h h2.2), hnil]
      simp only [List.nil_append, zgl, List.append_nil]
      rw [if_pos (by omega)]
      simp [List.take_length]
    have hE : a = b -> z8e a b = [] := fun h => by unfold z8e; rw [if_pos ⟨hl, h⟩]
    repeat' (first | refine nxt ?_ | ((first | refine zqh fun K hK => ?_ | refine zqs (zzn a b (by unfold maxLen; omega) (by unfold maxLen; omega)) ?_); (simp (disch := omega) only [go_sem, Nat.reduceBEq, ↓reduceIte, reduceCtorEq, Nat.reduceAdd, Nat.reduceMul, Nat.reduceLeDiff, Nat.reduceLT])) | (refine zqd _ rfl ?_ ?_ <;> intro hc <;> (first | (cases hc; done) | ((try simp only [z03] at hc); (try omega)))) | refine zqu (by simp only [go_sem]; rfl) rfl ?_ | (refine hK _ ?_; clear hK K) | (refine zqf (fun hb => ?_) (fun hb => ?_) <;> (have hb2 := hb; try simp only [z03] at hb2) <;> ((first | have F := eq_false hb2 | have F := eq_true hb2); (simp (disch := omega) only [go_sem, Nat.reduceBEq, ↓reduceIte, F]); clear hb F; (try omega))))
    all_goals first | (exfalso; omega) | skip
    all_goals first
      | (rw [hD (by assumption)]; exact z47 (z0t (f := zan) (l := [⟨0, a, b⟩]) 1 rfl zez zir (fun _ => rfl) z7o))
      | (rw [hE (by assumption)]; exact z47 (z0t (f := zan) (l := []) 1 rfl zez zir (fun _ => rfl) z7o))
  · repeat' (first | refine nxt ?_ | ((first | refine zqh fun K hK => ?_ | refine zbk (zwd a b (by unfold maxLen; omega) (by unfold maxLen; omega)) ?_); (simp (disch := omega) only [go_sem, Nat.reduceBEq, ↓reduceIte, reduceCtorEq, Nat.reduceAdd, Nat.reduceMul, Nat.reduceLeDiff])) | (refine zqd _ rfl ?_ ?_ <;> intro hc <;> (((try simp only [z03] at hc); (try omega)))) | (refine hK _ ?_; clear hK K) | (refine zqf (fun hb => ?_) (fun hb => ?_) <;> (have hb2 := hb; try simp only [z03] at hb2) <;> ((first | have F := eq_false hb2 | have F := eq_true hb2); (simp (disch := omega) only [go_sem, Nat.reduceBEq, ↓reduceIte, F]); clear hb F; (try omega))))
    (refine z3i (fun U st => ∃ (n : _) (i : _) (k : _) (out : List Ed), U = ps.length - n /\ st.t 0 = z1e a /\ st.t 1 = z1e b /\ st.t 5 = .osl 0 out.length /\ st.t 6 = .osl 1 ps.length /\ st.t 7 = .int .i64 (i : Nat) /\ st.t 8 = .int .i64 (k : Nat) /\ st.t 9 = .int .i64 (n : Nat) /\ st.H 0 = some (.row 126 out.length (out.flatMap zan)) /\ st.H 1 = some (.row 90 ps.length (ps.flatMap z16)) /\ (n <= ps.length) /\ (zgl a b ps 0 0 = out ++ zgl a b (ps.drop n) i k) /\ (zno a b (ps.drop n) i k) /\ (2 <= st.nx) /\ (out.length <= n) /\ (i <= a.length + 1 /\ k <= b.length + 1)) ?_ ?_); rotate_left; (rintro U st ⟨n, i, k, out, rfl, s0, s1, s5, s6, s7, s8, s9, sH0, sH1, sp0, sp1, sp2, sp3, sp4, sp5⟩); rotate_left
    · (refine ⟨_, 0, 0, 0, [], rfl, ?_⟩); (simp (disch := omega) only [go_sem, Nat.reduceBEq, Nat.reduceLeDiff, true_and, and_true, and_self, Int.natCast_zero, List.flatMap_nil, List.append_nil, List.nil_append, hps, List.flatMap_append, List.flatMap_cons, z16, List.length_append])
      rw [hps] at hch
      first | exact ⟨rfl, hch⟩ | exact hch | (refine ⟨?_, hch⟩; simp [z16])
    have V : ∀ h : n < ps.length, i <= ps[n].1 /\ ps[n].1 <= a.length /\ k <= ps[n].2 /\ ps[n].2 <= b.length /\ zno a b (ps.drop (n + 1)) (ps[n].1 + 1) (ps[n].2 + 1) /\ zgl a b (ps.drop n) i k = (if i < ps[n].1 \/ k < ps[n].2 then [⟨i, (a.take ps[n].1).drop i, (b.take ps[n].2).drop k⟩] else []) ++ zgl a b (ps.drop (n + 1)) (ps[n].1 + 1) (ps[n].2 + 1) := by
      intro h
      rw [List.drop_eq_getElem_cons h] at sp2 ⊢
      exact ⟨sp2.1, sp2.2.1, sp2.2.2.1, sp2.2.2.2.1, sp2.2.2.2.2, rfl⟩
    by_cases hn : n < ps.length
    · obtain ⟨g1, g2, g3, g4, g5, g6⟩ := V hn
      rw [g6] at sp1
      have g7 : z1j false 1 (min ps[n].1 a.length - i) (((a.take ps[n].1).drop i).map D.str) = ((a.take ps[n].1).drop i).map D.str := z84 (by simp)
      have g8 : z1j false 1 (min ps[n].2 b.length - k) (((b.take ps[n].2).drop k).map D.str) = ((b.take ps[n].2).drop k).map D.str := z84 (by simp)
      repeat' (first | refine nxt ?_ | ((first | refine zqh fun K hK => ?_ | refine zqe (by decide +kernel) fun K hK => ?_ | refine zqr fun K hK => ?_ | refine zqq (by decide +kernel) fun K hK => ?_); (simp (disch := omega) only [go_sem, Nat.reduceBEq, Nat.reduceEqDiff, ↓reduceIte, reduceCtorEq, Nat.reduceAdd, Nat.reduceMul, Nat.reduceLeDiff, Nat.reduceLT, s0, s1, s5, s6, s7, s8, s9, sH0, sH1, fl0, fl1, g7, g8])) | (refine zqd _ rfl ?_ ?_ <;> intro hc <;> (first | (cases hc; done) | ((try simp only [z03] at hc); (try omega)))) | (refine hK _ ?_; clear hK K) | (refine zqf (fun hb => ?_) (fun hb => ?_) <;> (have hb2 := hb; try simp only [z03] at hb2) <;> ((first | have F := eq_false hb2 | have F := eq_true hb2); (simp (disch := omega) only [go_sem, Nat.reduceBEq, ↓reduceIte, reduceCtorEq, Nat.reduceAdd, F, s6, s8, s9, sH1, fl1]); clear hb F; (try omega))))
      all_goals first
        | (rw [if_pos (by omega)] at sp1
           (refine Exists.intro _ (And.intro ?_ ⟨n + 1, ps[n].1 + 1, ps[n].2 + 1, out ++ [⟨i, (a.take ps[n].1).drop i, (b.take ps[n].2).drop k⟩], rfl, ?_⟩)); rotate_left; (simp (disch := omega) only [go_sem, Nat.reduceBEq, Nat.reduceLeDiff, s0, s1, s5, s6, s7, s8, s9, sH0, sH1, true_and, Int.natCast_add, Int.natCast_one, List.flatMap_append, List.flatMap_cons, List.flatMap_nil, List.append_nil, zan]); rotate_left
           · omega
           · exact ⟨by omega, by rw [sp1]; simp, g5, by omega, by omega, by omega⟩)
        | (rw [if_neg (by omega), List.nil_append] at sp1
           (refine Exists.intro _ (And.intro ?_ ⟨n + 1, ps[n].1 + 1, ps[n].2 + 1, out, rfl, ?_⟩)); rotate_left; (simp (disch := omega) only [go_sem, Nat.reduceBEq, Nat.reduceLeDiff, s0, s1, s5, s6, s7, s8, s9, sH0, sH1, true_and, Int.natCast_add, Int.natCast_one]); rotate_left
           · omega
           · exact ⟨by omega, sp1, g5, by omega, by omega, by omega⟩)
    · repeat' (first | refine nxt ?_ | ((refine zqh fun K hK => ?_); (simp (disch := omega) only [go_sem, Nat.reduceBEq, ↓reduceIte, s5, s6, s9])) | (refine zqd _ rfl ?_ ?_ <;> intro hc <;> (((try simp only [z03] at hc); (try omega)))) | refine zqz ?_ | refine zqu (by simp only [go_sem]; rfl) rfl ?_ | (refine hK _ ?_; clear hK K))
      rw [List.drop_eq_nil_of_le (by omega), zgl, List.append_nil] at sp1
      have hD : z8e a b = out := by unfold z8e; rw [if_neg (by rintro ⟨h1, _⟩; exact hl h1), <- hps]; exact sp1
      rw [hD]
      exact z47 (z0t 1 sH0 zez zir (fun _ => rfl) z7o)
end
section
open Abs Facts Tr
attribute [local irreducible] awp
set_option maxRecDepth 100000
theorem z6j (n : Int) (hn : 0 <= n /\ n <= 9) (l : List ByteArray) (hl : l.length <= 1000000) : PC prog 58 [.int .i64 n, z1e l] (z0k (l.map (stW n))) := by
 refine z2f 3 (by simp only [pureD.pureL, z1t, pureD, Bool.and_self]) (z1m _) (z23 [7] func58 rfl (by decide +kernel) rfl ?_)
 show awp _ _ (Code.seq _ _) _ _
 repeat' (first | refine nxt ?_ | ((refine zqh fun K hK => ?_); (simp (disch := omega) only [go_sem, Nat.reduceBEq, ↓reduceIte, reduceCtorEq, Nat.reduceMul])) | (refine hK _ ?_; clear hK K))
 (refine z3i (fun U st => ∃ (i : Nat), U = l.length - i /\ st.t 0 = .int .i64 n /\ st.t 1 = z1e l /\ st.t 5 = .osl 0 i /\ st.t 6 = .int .i64 i /\ st.H (0) = some (.row 48 i (((l.take i).map (stW n)).flatMap z1q)) /\ (i <= l.length)) ?_ ?_); rotate_left; (rintro U st ⟨i, rfl, v0, v1, v5, v6, vH0, vp0⟩); rotate_left
 ·(refine ⟨_, 0, rfl, ?_⟩); (simp (disch := omega) only [go_sem, Nat.reduceBEq, and_self, Int.natCast_zero, List.flatMap_nil, List.map_nil, z1e])
 by_cases hi : i < l.length
 ·have htk := List.take_succ_eq_append_getElem hi
  repeat' (first | refine nxt ?_ | ((first | refine zqh fun K hK => ?_ | refine zqr fun K hK => ?_); (simp (disch := omega) only [go_sem, Nat.reduceBEq, ↓reduceIte, reduceCtorEq, Nat.reduceAdd, Nat.reduceMul, Nat.reduceLeDiff, v0, v1, v5, v6, vH0, z1e])) | (refine zqd _ rfl ?_ ?_ <;> intro hc <;> (((try simp only [z03] at hc); (try omega)))) | (refine hK _ ?_; clear hK K))
  (refine Exists.intro _ (And.intro ?_ ⟨i + 1, rfl, ?_⟩)); rotate_left; (simp (disch := omega) only [go_sem, Nat.reduceBEq, v0, v1, v5, v6, vH0, true_and, Int.natCast_add, Int.natCast_one, List.flatMap_append, List.flatMap_cons, List.flatMap_nil, List.map_append, List.map_cons, List.map_nil, List.append_nil, htk, z1q, stW]); rotate_left
  ·omega
  ·omega
 ·repeat' (first | refine nxt ?_ | ((refine zqh fun K hK => ?_); (simp (disch := omega) only [go_sem, Nat.reduceBEq, ↓reduceIte, v1, v5, v6, z1e])) | (refine zqd _ rfl ?_ ?_ <;> intro hc <;> (((try simp only [z03] at hc); (try omega)))) | refine zqz ?_ | refine zqu (by simp only [go_sem]; rfl) rfl ?_ | (refine hK _ ?_; clear hK K))
  have hta : l.take i = l := List.take_of_length_le (by omega)
  have hil : i = (l.map (stW n)).length := by rw [List.length_map]; omega
  rw [hta] at vH0
  rw [hil] at vH0 ⊢
  exact z47 (nx := 0) (z0t (f := z1q) (l := l.map (stW n)) 1 vH0 ziq zmt (fun _ => rfl) (fun _ => rfl))
theorem ztu (l : List Idv) (i : Idv) (hl : l.length <= 1000000) : PC prog 61 [z0q l, z48 i] (.bool (decide (i ∈ l))) := by
  refine z2f 1 (by simp only [pureD.pureL, z34]; rfl) rfl (z23 [] func61 rfl (by decide +kernel) rfl ?_)
  show awp _ _ (Code.seq _ _) _ _
  repeat' (first | refine nxt ?_ | ((refine zqh fun K hK => ?_); (simp (disch := omega) only [go_sem])) | (refine hK _ ?_; clear hK K))
  (refine z3i (fun U st => ∃ (n : Nat), U = l.length - n /\ st.t 0 = z0q l /\ st.t 3 = .ptr 0 0 /\ st.t 5 = .int .i64 n /\ st.H (0) = some (.box 23 (cellsId i)) /\ (n <= l.length) /\ (¬ i ∈ l.take n)) ?_ ?_); rotate_left; (rintro U st ⟨n, rfl, v0, v3, v5, vH0, vp0, vp1⟩); rotate_left
  · (refine ⟨_, 0, rfl, ?_⟩); (simp (disch := omega) only [go_sem, Nat.reduceBEq, true_and, Int.natCast_zero, z0q, cellsId])
    exact fun h => by cases h
  by_cases hi : n < l.length
  · have htk := List.take_succ_eq_append_getElem hi
    by_cases he : l[n] = i
    · repeat' (first | refine nxt ?_ | ((first | refine zqh fun K hK => ?_ | refine zqe (by decide +kernel) fun K hK => ?_); (simp (disch := omega) only [go_sem, Nat.reduceBEq, ↓reduceIte, reduceCtorEq, Nat.reduceAdd, Nat.reduceLeDiff, v0, v3, v5, vH0, z0q, cellsId, he])) | ((first | refine zqd _ rfl (fun hc => ?_) (fun hc => ?_) | refine zqm _ rfl (fun hc => ?_) (fun hc => ?_)) <;> (first | (cases hc; done) | ((try simp only [z03] at hc); (try omega)))) | refine zqu (by simp only [go_sem]; rfl) rfl ?_ | (refine hK _ ?_; clear hK K))
      exact z00 (by have : i ∈ l := he ▸ List.getElem_mem hi
                    simp [this])
    · repeat' (first | refine nxt ?_ | ((first | refine zqh fun K hK => ?_ | refine zqe (by decide +kernel) fun K hK => ?_ | refine zqr fun K hK => ?_); (simp (disch := omega) only [go_sem, Nat.reduceBEq, ↓reduceIte, reduceCtorEq, Nat.reduceAdd, Nat.reduceLeDiff, v0, v3, v5, vH0, z0q, cellsId, he])) | ((first | refine zqd _ rfl (fun hc => ?_) (fun hc => ?_) | refine zqm _ rfl (fun hc => ?_) (fun hc => ?_)) <;> (first | (cases hc; done) | ((try simp only [z03] at hc); (try omega)))) | (refine hK _ ?_; clear hK K))
      (refine Exists.intro _ (And.intro ?_ ⟨n + 1, rfl, ?_⟩)); rotate_left; (simp (disch := omega) only [go_sem, Nat.reduceBEq, v0, v3, v5, vH0, true_and, Int.natCast_add, Int.natCast_one, cellsId]); rotate_left
      · omega
      · exact ⟨by omega, fun h => by rw [htk, List.mem_append, List.mem_singleton] at h; exact h.elim vp1 fun e => he e.symm⟩
  · repeat' (first | refine nxt ?_ | ((refine zqh fun K hK => ?_); (simp (disch := omega) only [go_sem, Nat.reduceBEq, ↓reduceIte, v0, v5, z0q])) | (refine zqd _ rfl ?_ ?_ <;> intro hc <;> (((try simp only [z03] at hc); (try omega)))) | refine zqz ?_ | refine zqu (by simp only [go_sem]; rfl) rfl ?_ | (refine hK _ ?_; clear hK K))
    have hta : l.take n = l := List.take_of_length_le (by omega)
    rw [hta] at vp1
    exact z00 (decide_eq_false vp1).symm
theorem zic (u : T) (i : Idv) (h : szB u = true) : PC prog 85 [z1f u, z48 i] (.bool (z26 i u)) := by
 have c1 := znz i u h
 refine z2f 1 (by simp only [pureD.pureL, z0a]; rfl) rfl (z23 [] func85 rfl (by decide +kernel) rfl ?_)
 show awp _ _ (Code.seq _ _) _ _
 repeat' (first | ((first | refine zqh fun K hK => ?_ | refine zqs (c1) ?_); (simp (disch := omega) only [go_sem, Nat.reduceBEq, ↓reduceIte, Nat.reduceAdd, Nat.reduceLeDiff])) | refine nxt ?_ | refine zqu (by simp only [go_sem]; rfl) rfl ?_ | (refine hK _ ?_; clear hK K))
 exact z00 rfl
namespace Tr
def EdOK (n : Nat) : List Ed -> Nat -> Prop
 | [], i => i <= n
 | e :: l, i => ∃ k : Nat, e.at_ = (k : Int) /\ i <= k /\ k + e.old.length <= n /\ EdOK n l (k + e.old.length)
theorem EdOK.le {n : Nat} : ∀ {l : List Ed} {i : Nat}, EdOK n l i -> i <= n
 | [], _, h => h
 | e :: l, i, ⟨k, _, h1, h2, _⟩ => by omega
theorem zmc (a b : List ByteArray) : ∀ (l : List (Nat × Nat)) (n i k : Nat), zem a b l i k -> n <= i -> i <= a.length -> k <= b.length -> EdOK a.length (zgl a b (l ++ [(a.length, b.length)]) i k) n
 | [], n, i, k, _, hn, hi, O => by
  simp only [List.nil_append, zgl, List.append_nil]
  split
  ·refine ⟨i, rfl, hn, ?_, ?_⟩
   ·simp only [List.take_length, List.length_drop]; omega
   ·show _ <= _
    simp only [List.take_length, List.length_drop]; omega
  ·show _ <= _
   omega
 | (x, y) :: l, n, i, k, h, hn, hi, O => by
  obtain ⟨h1, h2, h3, h4, h5, h6⟩ := h
  simp only at h1 h2 h3 h4
  rw [List.cons_append, zgl]
  simp only
  split
  ·refine ⟨i, rfl, hn, ?_, ?_⟩
   ·simp only [List.length_drop, List.length_take]; omega
   ·refine zmc a b l _ (x + 1) (y + 1) h6 ?_ (by omega) (by omega)
    simp only [List.length_drop, List.length_take]; omega
  ·exact zmc a b l n (x + 1) (y + 1) h6 (by omega) (by omega) (by omega)
theorem ztv (a b : List ByteArray) (ha : a.length <= 256) (hb : b.length <= 256) : EdOK a.length (z8e a b) 0 := by
 unfold z8e
 rw [if_neg (by simp; omega)]
 exact zmc a b (Lcs.pairs a b) 0 0 0 (z35 a b) (Nat.le_refl _) (Nat.zero_le _) (Nat.zero_le _)
theorem zoe (a b : List ByteArray) : ∀ (l : List (Nat × Nat)) (i k : Nat), zem a b l i k -> k <= b.length -> ((zgl a b (l ++ [(a.length, b.length)]) i k).map fun e => e.new.length).sum <= b.length - k
 | [], i, k, _, O => by
  simp only [List.nil_append, zgl, List.append_nil]
  split
  ·simp [List.take_length]
  ·simp
 | (x, y) :: l, i, k, h, O => by
  obtain ⟨h1, h2, h3, h4, h5, h6⟩ := h
  simp only at h1 h2 h3 h4
  have ih := zoe a b l (x + 1) (y + 1) h6 (by omega)
  rw [List.cons_append, zgl]
  simp only
  split
  ·simp only [List.cons_append, List.nil_append, List.map_cons, List.sum_cons, List.length_drop, List.length_take]
   omega
  ·rw [List.nil_append]; omega
theorem ztw (a : List ByteArray) : ∀ (l : List Ed) (i : Nat), EdOK a.length l i -> (zon a l i).length = a.length - i + (l.map fun e => e.new.length).sum
 | [], i, _ => by simp [zon]
 | e :: l, i, ⟨k, h1, h2, h3, h4⟩ => by
  have ih := ztw a l _ h4
  rw [zon, h1, Int.toNat_natCast]
  simp only [List.length_append, List.length_map, List.length_drop, List.length_take, List.map_cons, List.sum_cons, ih]
  omega
theorem zof (a b : List ByteArray) : ∀ (l : List (Nat × Nat)) (i k : Nat), (zgl a b l i k).length <= l.length
 | [], _, _ => by simp [zgl]
 | p :: l, i, k => by
  have ih := zof a b l (p.1 + 1) (p.2 + 1)
  rw [zgl, List.length_append, List.length_cons]
  split
  ·simp only [List.length_cons, List.length_nil]; omega
  ·simp only [List.length_nil]; omega
theorem zyc (a b : List ByteArray) (ha : a.length <= 256) (hb : b.length <= 256) : (z8e a b).length <= 1000 := by
 unfold z8e
 rw [if_neg (by simp; omega)]
 refine Nat.le_trans (zof a b _ 0 0) ?_
 have := Lcs.pairs_le a b
 simp only [List.length_append, List.length_cons, List.length_nil]
 omega
theorem ztx (a b : List ByteArray) (ha : a.length <= 256) (hb : b.length <= 256) : (zon a (z8e a b) 0).length <= 512 := by
 rw [ztw a _ 0 (ztv a b ha hb)]
 have h : ((z8e a b).map fun e => e.new.length).sum <= b.length := by
  unfold z8e
  rw [if_neg (by simp; omega)]
  exact Nat.le_trans (zoe a b (Lcs.pairs a b) 0 0 (z35 a b) (Nat.zero_le _)) (by omega)
 omega
end Tr
@[go_sem] theorem zg8 : ∀ l : List Tw, z1a 2 (l.map zm8) = some (l.flatMap z1q) := zda (f := z1q) (n := 2) (fun _ => rfl)
@[go_sem] theorem cellsAll_stW (n : Int) (l : List ByteArray) : z1a 2 (l.map (zm8 ∘ stW n)) = some ((l.map (stW n)).flatMap z1q) := by rw [<- List.map_map, zg8]
set_option maxHeartbeats 16000000 in
theorem zek (a b : List ByteArray) (ha : a.length <= 256) (hb : b.length <= 256) : PC prog 60 [z1e a, z1e b] (z0k (z3h a b)) := by
 have c1 := zx8 a b (by omega) (by omega)
 have hok := ztv a b ha hb
 have hsm := ztx a b ha hb
 rw [<- zuc a b ha hb]
 obtain ⟨L, hL⟩ : ∃ L, L = z8e a b := ⟨_, rfl⟩
 rw [<- hL] at c1 hok hsm ⊢
 obtain ⟨W, hW⟩ : ∃ W, W = zon a L 0 := ⟨_, rfl⟩
 rw [<- hW] at hsm ⊢
 have hLl : L.length <= 1000 := by rw [hL]; exact zyc a b ha hb
 refine z2f 3 (by simp only [pureD.pureL, z1t, Bool.and_self]) (z1m _) (z23 [9, 3000033, 3000035, 3000040, 3000042] func60 rfl (by decide +kernel) rfl ?_)
 show awp _ _ (Code.seq _ _) _ _
 repeat' (first | refine nxt ?_ | ((first | refine zqh fun K hK => ?_ | refine zqs (c1) ?_); (simp (disch := omega) only [go_sem, Nat.reduceBEq, ↓reduceIte, reduceCtorEq, Nat.reduceMul])) | (refine hK _ ?_; clear hK K))
 (refine z3i (fun U st => ∃ (i : Nat) (n : Nat) (r : List Tw), U = L.length - i /\ st.t 0 = z1e a /\ st.t 5 = .osl 0 r.length /\ st.t 6 = encE L /\ st.t 7 = .int .i64 n /\ st.t 8 = .int .i64 i /\ st.H (0) = some (.row 48 r.length (r.flatMap z1q)) /\ st.nx = 1 /\ (i <= L.length) /\ (EdOK a.length (L.drop i) n) /\ (r ++ zon a (L.drop i) n = W)) ?_ ?_); rotate_left; (rintro U st ⟨i, n, r, rfl, v0, v5, v6, v7, v8, vH0, vnx, vp0, vp1, vp2⟩); rotate_left
 ·(refine ⟨_, 0, 0, [], rfl, ?_⟩); (simp (disch := omega) only [go_sem, Nat.reduceBEq, true_and, Int.natCast_zero, List.flatMap_nil, List.nil_append, z1e])
  exact ⟨hok, hW.symm⟩
 by_cases hi : i < L.length
 ·have hdr := List.drop_eq_getElem_cons hi
  obtain ⟨e, he⟩ : ∃ e, L[i] = e := ⟨_, rfl⟩
  rw [he] at hdr
  rw [hdr] at vp1 vp2
  obtain ⟨k, k1, k2, k3, k4⟩ := vp1
  rw [zon, k1, Int.toNat_natCast] at vp2
  have hka : k <= a.length := by omega
  have hlen := congrArg List.length vp2
  simp only [List.length_append, List.length_map, List.length_drop, List.length_take] at hlen
  have d1 := z6j 0 (by decide) ((a.take k).drop n) (by simp only [List.length_drop, List.length_take]; omega)
  have d2 := z6j 2 (by decide) e.old (by omega)
  have d3 := z6j 1 (by decide) e.new (by omega)
  unfold z0k at d1 d2 d3
  repeat' (first | refine nxt ?_ | ((first | refine zqh fun K hK => ?_ | refine zqe (by decide +kernel) fun K hK => ?_ | refine zqr fun K hK => ?_ | refine zqq (by decide +kernel) fun K hK => ?_ | refine zqs (d1) ?_ | refine zqt (d2) ?_ | refine zqt (d3) ?_); (simp (disch := omega) only [go_sem, Nat.reduceBEq, Nat.reduceEqDiff, ↓reduceIte, reduceCtorEq, Nat.reduceAdd, v0, v5, v6, v7, v8, vH0, vnx, z1e, encE, he, zan, k1])) | (refine zqd _ rfl ?_ ?_ <;> intro hc <;> (((try simp only [z03] at hc); (try omega)))) | (refine hK _ ?_; clear hK K))
  (refine Exists.intro _ (And.intro ?_ ⟨i + 1, k + e.old.length, r ++ (((a.take k).drop n).map (stW 0) ++ (e.old.map (stW 2) ++ e.new.map (stW 1))), rfl, ?_⟩)); rotate_left; (simp (disch := omega) only [go_sem, Nat.reduceBEq, v0, v5, v6, v7, v8, vH0, true_and, Int.natCast_add, Int.natCast_one, List.flatMap_append, z1e, List.length_append, List.length_map]); rotate_left
  ·omega
  ·refine ⟨by rw [Nat.add_assoc, Nat.add_assoc], by rw [Nat.add_assoc, Nat.add_assoc]; simp only [List.append_assoc], by omega, k4, ?_⟩
   simp only [List.append_assoc]
   exact vp2
 ·have hdn : L.drop i = [] := List.drop_eq_nil_of_le (by omega)
  rw [hdn] at vp1 vp2
  have vp1 : n <= a.length := vp1
  rw [zon] at vp2
  have d1 := z6j 0 (by decide) (a.drop n) (by simp only [List.length_drop]; omega)
  have hlen := congrArg List.length vp2
  simp only [List.length_append, List.length_map, List.length_drop] at hlen
  unfold z0k at d1
  repeat' (first | refine nxt ?_ | ((first | refine zqh fun K hK => ?_ | refine zqs (d1) ?_); (simp (disch := omega) only [go_sem, Nat.reduceBEq, ↓reduceIte, reduceCtorEq, Nat.reduceAdd, v0, v5, v6, v7, v8, vH0, vnx, z1e, encE])) | (refine zqd _ rfl ?_ ?_ <;> intro hc <;> (((try simp only [z03] at hc); (try omega)))) | refine zqz ?_ | refine zqu (by simp only [go_sem]; rfl) rfl ?_ | (refine hK _ ?_; clear hK K))
  have hWl : r.length + (a.length - n) = W.length := hlen
  have hcs : r.flatMap z1q ++ ((a.drop n).map (stW 0)).flatMap z1q = W.flatMap z1q := by rw [<- List.flatMap_append, vp2]
  rw [hWl, hcs]
  exact z47 (nx := 0) (z0t (f := z1q) (l := W) 1 rfl ziq zmt (fun _ => rfl) (fun _ => rfl))
namespace Abs
def z1i (A B : T) (ms : List Idv) : List D := z06 A ++ (z06 B ++ [z0q ms])
theorem z4v (A B : T) (ms : List Idv) : z1i A B ms = [.int .i64 A.id.act, .int .i64 A.id.item, .int .i64 A.id.n, .int .i64 A.kind, .str A.label, z1y A.head, z1y A.words, z0b A.kids, .int .i64 B.id.act, .int .i64 B.id.item, .int .i64 B.id.n, .int .i64 B.kind, .str B.label, z1y B.head, z1y B.words, z0b B.kids, z0q ms] := by
 rw [z1i, z0n, z0n]; rfl
@[go_sem] theorem zkm (A B : T) (ms : List Idv) : (z1i A B ms).length = 17 := by rw [z4v]; rfl
@[go_sem] theorem take_Two (A B : T) (ms : List Idv) : List.take 17 (z1i A B ms) = z1i A B ms := List.take_of_length_le (by rw [zkm]; exact Nat.le_refl _)
@[go_sem] theorem cellsTwo_A (A B : T) (ms : List Idv) : List.take 8 (z1i A B ms) = z06 A := by rw [z4v, z0n]; rfl
@[go_sem] theorem cellsTwo_B (A B : T) (ms : List Idv) : List.take 8 (List.drop 8 (z1i A B ms)) = z06 B := by rw [z4v, z0n]; rfl
@[go_sem] theorem cellsTwo_m (A B : T) (ms : List Idv) : (z1i A B ms)[16]? = some (z0q ms) := by rw [z4v]; rfl
theorem z5g (A B : T) (ms : List Idv) : pureD.pureL (z1i A B ms) = true := by
 rw [z4v]; simp only [pureD.pureL, pureD, z1v, z4q, z34, Bool.and_true]
attribute [go_sem] z5g
end Abs
theorem zr8 (A B : T) (ms : List Idv) (hA : szB A = true) (hB : szB B = true) (hm : ms.length <= 1000000) (i : Idv) : PC prog 62 [.agg (z1i A B ms), z48 i] (.bool (stayB A B (fun i => decide (i ∈ ms)) i)) := by
 have c1 := zic A i hA
 have c2 := zic B i hB
 have c3 := ztu ms i hm
 refine z2f 1 (by simp only [pureD.pureL, z5g, pureD]; rfl) rfl (z23 [] func62 rfl (by decide +kernel) rfl ?_)
 show awp _ _ (Code.seq _ _) _ _
 cases h1 : z26 i A <;> cases h2 : z26 i B <;> cases h3 : decide (i ∈ ms)
 all_goals
  rw [h1] at c1
  rw [h2] at c2
  rw [h3] at c3
  repeat' (first | ((first | refine zqh fun K hK => ?_ | refine zqs (c1) ?_ | refine zqs (c2) ?_ | refine zqs (c3) ?_); (simp (disch := omega) only [go_sem, Nat.reduceBEq, ↓reduceIte, reduceCtorEq, Nat.reduceAdd, Nat.reduceLeDiff])) | refine nxt ?_ | refine zqu (by simp only [go_sem]; rfl) rfl ?_ | (refine hK _ ?_; clear hK K))
  exact z00 (by unfold stayB; rw [h1, h2]; simp only [h3]; rfl)
set_option maxHeartbeats 16000000 in
theorem zz2 (A B : T) (ms : List Idv) (hB : szB B = true) : ∀ u : T, szB u = true -> PC prog 63 [.agg (z1i A B ms), z1f u] (z58 (z3e B u)) := by
 refine z50 fun u ih hs => ?_
 obtain ⟨h0, h1, g1, h2, g2, h3, h4⟩ := (z2o u).1 hs
 have c1 := zic B u.id hB
 have c2 := z85 u.head h1
 have c3 := z85 u.words h2
 have c4 := z6j 2 (by decide) (txt u.head) (by unfold txt; rw [List.length_map]; omega)
 have c5 := z6j 2 (by decide) (txt u.words) (by unfold txt; rw [List.length_map]; omega)
 have hgo : zea u (u.kids.map (z3e B)) = .mk 2 u.kind u.id u.label ByteArray.empty false ((txt u.head).map (stW 2)) ((txt u.words).map (stW 2)) (u.kids.map (z3e B)) := rfl
 rw [show u.head.map (·.text) = txt u.head from rfl] at c2
 rw [show u.words.map (·.text) = txt u.words from rfl] at c3
 obtain ⟨gh, hgh⟩ : ∃ gh, gh = (txt u.head).map (stW 2) := ⟨_, rfl⟩
 obtain ⟨gw, hgw⟩ : ∃ gw, gw = (txt u.words).map (stW 2) := ⟨_, rfl⟩
 rw [<- hgh] at c4 hgo
 rw [<- hgw] at c5 hgo
 obtain ⟨th, hth⟩ : ∃ th, th = txt u.head := ⟨_, rfl⟩
 obtain ⟨tw, htw⟩ : ∃ tw, tw = txt u.words := ⟨_, rfl⟩
 rw [<- hth] at c2 c4
 rw [<- htw] at c3 c5
 unfold z0k at c4 c5
 refine z2f 4 (by simp only [pureD.pureL, z5g, z0a, pureD, Bool.and_self]) (z2j _) (z23 [8000000, 3000016, 3000018, 3000020, 3000022, 5000023, 5000024, 3000026, 5000027, 5000028, 3000038, 3000039, 3000041, 3000043, 3000044, 5000045] func63 rfl (by decide +kernel) rfl ?_)
 show awp _ _ (Code.seq _ _) _ _
 rw [show Tryz.f63.results.toList = [.cell 4 33] from rfl]
 rw [zdq]
 cases hB2 : z26 u.id B
 rotate_left
 ·rw [hB2] at c1
  rw [if_pos rfl]
  repeat' (first | refine nxt ?_ | ((first | refine zqh fun K hK => ?_ | refine zqs (c1) ?_); (simp (disch := omega) only [go_sem, Nat.reduceBEq, ↓reduceIte, reduceCtorEq, Nat.reduceAdd, Nat.reduceLeDiff])) | (refine zqd _ rfl ?_ ?_ <;> intro hc <;> (first | (cases hc; done) | ((try simp only [] at hc); (try omega)))) | refine zqu (by (simp (disch := omega) only [go_sem, Nat.reduceBEq, ↓reduceIte, Nat.reduceAdd, Nat.reduceLeDiff]); rfl) rfl ?_ | (refine hK _ ?_; clear hK K))
  refine z18 (nx := 0) rfl ?_
  rw [z58, z10]
  exact Le.agg ⟨Le.refl _, Le.refl _, Le.refl _, Le.refl _, Le.refl _, Le.refl _, Le.refl _, Le.refl _, Le.nil 2, Le.nil 2, Le.nil 11, trivial⟩
 rw [hB2] at c1
 rw [if_neg (by decide)]
 repeat' (first | refine nxt ?_ | ((first | refine z1n (N := 4) rfl fun K hK => ?_ | refine z5l (N := 4) rfl (by decide +kernel) fun K hK => ?_ | refine zqs (c1) ?_ | refine zqt (c2) ?_ | refine zqt (c3) ?_ | refine zqt (c4) ?_ | refine zqt (c5) ?_); (simp (disch := omega) only [go_sem, Nat.reduceBEq, Nat.reduceEqDiff, ↓reduceIte, reduceCtorEq, Nat.reduceAdd, Nat.reduceLeDiff, z1y])) | (refine zqd _ rfl ?_ ?_ <;> intro hc <;> (first | (cases hc; done) | ((try simp only [] at hc); (try omega)))) | (refine hK _ ?_; clear hK K))
 refine z3k fun K hK => ?_
 (simp (disch := omega) only [go_sem])
 refine hK _ _ (z7k (b := 3) (off := 10) (e := 33) 33 (by (simp (disch := omega) only [go_sem, Nat.reduceBEq]); rfl) rfl) ?_
 clear hK K
 repeat' (refine zqa ?_)
 (refine z3i (fun U st => ∃ (i : _), U = u.kids.length - i /\ st.t 2 = .ptr 0 0 /\ st.t 3 = .ptr 1 0 /\ st.t 4 = .ptr 2 0 /\ st.t 5 = .ptr 3 0 /\ st.t 6 = .int .i64 i /\ st.H (0) = some (.box 59 (z1i A B ms)) /\ st.H (1) = some (.box 27 (z06 u)) /\ st.H (2) = some (.box 33 [.int .i64 0, .int .i64 0, .int .i64 0, .int .i64 0, .int .i64 0, .str ByteArray.empty, .str ByteArray.empty, .bool false, .nil, .nil, .nil]) /\ st.H (3) = some (.box 33 [.int .i64 2, .int .i64 u.kind, .int .i64 u.id.act, .int .i64 u.id.item, .int .i64 u.id.n, .str u.label, .str ByteArray.empty, .bool false, z0k gh, z0k gw, .osl 4 i]) /\ st.H (4) = some (.row 33 i (((u.kids.take i).map (z3e B)).flatMap z0p)) /\ st.nx = 5 /\ (i <= u.kids.length)) ?_ ?_); rotate_left; (rintro U st ⟨i, rfl, q2, q3, q4, q5, q6, qH0, qH1, qH2, qH3, qH4, qnx, qp0⟩); rotate_left
 ·(refine ⟨_, 0, rfl, ?_⟩); (simp (disch := omega) only [go_sem, Nat.reduceBEq, Nat.reduceAdd, and_self, Int.natCast_zero, List.flatMap_nil, List.map_nil, z0k])
 by_cases hi : i < u.kids.length
 ·have hin := ih u.kids[i] (List.getElem_mem hi) (h4 _ (List.getElem_mem hi))
  repeat' (first | refine nxt ?_ | ((first | refine zqh fun K hK => ?_ | refine zqr fun K hK => ?_ | refine zqq (by decide +kernel) fun K hK => ?_ | refine zqt (hin) ?_); (simp (disch := omega) only [go_sem, Nat.reduceBEq, Nat.reduceEqDiff, ↓reduceIte, reduceCtorEq, Nat.reduceAdd, Nat.reduceMul, Nat.reduceLeDiff, Nat.reduceLT, q2, q3, q5, q6, qH0, qH1, qH3, qH4, qnx, z0b])) | (refine zqd _ rfl ?_ ?_ <;> intro hc <;> (((try simp only [z03] at hc); (try omega)))) | (refine hK _ ?_; clear hK K))
  (refine Exists.intro _ (And.intro ?_ ⟨i + 1, rfl, ?_⟩)); rotate_left; (simp (disch := omega) only [go_sem, Nat.reduceBEq, q2, q3, q4, q5, q6, qH0, qH1, qH2, qH3, qH4, true_and, Int.natCast_add, Int.natCast_one, List.flatMap_append, List.flatMap_cons, List.flatMap_nil, List.map_append, List.map_cons, List.map_nil, List.append_nil, List.take_succ_eq_append_getElem hi]); rotate_left
  ·omega
  ·omega
 ·repeat' (first | refine nxt ?_ | ((refine zqh fun K hK => ?_); (simp (disch := omega) only [go_sem, Nat.reduceBEq, ↓reduceIte, reduceCtorEq, Nat.reduceAdd, Nat.reduceLeDiff, q3, q4, q5, q6, qH1, qH2, qH3, qnx, z0b])) | (refine zqd _ rfl ?_ ?_ <;> intro hc <;> (((try simp only [z03] at hc); (try omega)))) | refine zqz ?_ | refine zqu (by (simp (disch := omega) only [go_sem, Nat.reduceBEq, ↓reduceIte, Nat.reduceAdd, Nat.reduceLeDiff, q4, qH2]); rfl) rfl ?_ | (refine hK _ ?_; clear hK K))
  have hie : i = (u.kids.map (z3e B)).length := by rw [List.length_map]; omega
  have hta : u.kids.take i = u.kids := List.take_of_length_le (by omega)
  rw [hta] at qH4
  rw [hgo, z58, z10]
  refine z47 (nx := 0) (z8s (k := 3) (by simp [pureD.pureL, pureD]) ?_)
  refine z04 (z02 2 rfl) (z04 (z02 2 rfl) (z04 (z02 2 rfl) (z04 (z02 2 rfl) (z04 (z02 2 rfl) (z04 (z02 2 rfl) (z04 (z02 2 rfl) (z04 (z02 2 rfl) (z04 (z02 2 (z1m _)) (z04 (z02 2 (z1m _)) (z04 ?_ z3r))))))))))
  rw [hie]
  refine z0t (f := z0p) (l := u.kids.map (z3e B)) 1 ?_ zb5 zey z2p z32
  rw [hie] at qH4
  (simp (disch := omega) only [go_sem, Nat.reduceBEq, qH4])
structure Two50 (A B : T) (ms : List Idv) : Prop where
 hA : szB A = true
 hB : szB B = true
 hm : ms.length <= 1000000
 bk : Books A B (fun i => decide (i ∈ ms))
 wA : ∀ x ∈ nodesT A, x.head.length <= 256 /\ x.words.length <= 256
 wB : ∀ x ∈ nodesT B, x.head.length <= 256 /\ x.words.length <= 256
namespace Tr
theorem zr5 {b : List ByteArray} : ∀ (l : List (Nat × Nat)) (i k : Nat), zem [] b l i k -> l = []
 | [], _, _, _ => rfl
 | (x, y) :: l, i, k, h => by
  obtain ⟨q1, q2, q3, q4, _⟩ := h
  exact absurd q2 (Nat.not_lt_zero _)
theorem zh6 (b : List ByteArray) : z3h [] b = b.map (stW 1) := by
 unfold z3h
 rw [zr5 _ _ _ (z35 [] b)]
 simp [wov]
theorem zh7 {γ : Type} (s : Idv -> Bool) (ga : T -> γ) (b : List (Idv × γ)) : mg s ga [] b = b.map (·.2) := by rw [mg]
theorem mg_go {γ : Type} {s : Idv -> Bool} {ga : T -> γ} {x : T} {a : List T} {b : List (Idv × γ)} (h : s x.id = false) : mg s ga (x :: a) b = ga x :: mg s ga a b := by rw [mg, if_neg (by rw [h]; decide)]
theorem mg_come {γ : Type} {s : Idv -> Bool} {ga : T -> γ} {a : List T} (ha : a = [] \/ ∃ x a', a = x :: a' /\ s x.id = true) {y : Idv × γ} {b : List (Idv × γ)} (h : s y.1 = false) : mg s ga a (y :: b) = y.2 :: mg s ga a b := by
 rcases ha with rfl | ⟨x, a', rfl, hx⟩
 ·rw [zh7, zh7, List.map_cons]
 ·rw [mg, if_pos hx, mg, if_pos hx]
  simp [h]
theorem mg_stay {γ : Type} {s : Idv -> Bool} {ga : T -> γ} {a : List T} (ha : a = [] \/ ∃ x a', a = x :: a' /\ s x.id = true) {y : Idv × γ} {b : List (Idv × γ)} (h : s y.1 = true) : mg s ga a (y :: b) = y.2 :: mg s ga a.tail b := by
 rcases ha with rfl | ⟨x, a', rfl, hx⟩
 ·rw [zh7, List.map_cons, List.tail_nil, zh7]
 ·rw [mg, if_pos hx]
  simp [h]
theorem mg_end {γ : Type} {s : Idv -> Bool} {ga : T -> γ} {a : List T} (ha : a = [] \/ ∃ x a', a = x :: a' /\ s x.id = true) : mg s ga a [] = mg s ga a.tail [] := by
 rcases ha with rfl | ⟨x, a', rfl, hx⟩
 ·rfl
 ·rw [mg, if_pos hx]; simp
theorem mg_le {γ : Type} (s : Idv -> Bool) (ga : T -> γ) (a : List T) (b : List (Idv × γ)) : (mg s ga a b).length <= a.length + b.length := by
 rw [(z9x s ga a b).length_eq, List.length_append, List.length_map, List.length_map]
 have := List.length_filter_le (fun x : T => !s x.id) a
 omega
def HdF (s : Idv -> Bool) (b : List (Idv × TT)) : Prop := b = [] \/ ∃ y q, b = y :: q /\ s y.1 = true
def Hd (s : Idv -> Bool) (a : List T) : Prop := a = [] \/ ∃ x a', a = x :: a' /\ s x.id = true
end Tr
set_option maxHeartbeats 32000000 in
theorem zr6 (A B : T) (ms : List Idv) (hh : Two50 A B ms) : ∀ u : T, u ∈ nodesT B -> szB u = true -> PC prog 25 [.agg (z1i A B ms), z1f u] (z58 (z2l A B (fun i => decide (i ∈ ms)) u)) := by
 refine z50 fun u ih hu hs => ?_
 obtain ⟨h0, h1, g1, h2, g2, h3, h4⟩ := (z2o u).1 hs
 have ih := fun k (O : k ∈ u.kids) => ih k O (z0z B u hu k (z0i O (z09 k))) (h4 k O)
 obtain ⟨mv, hmv⟩ : ∃ mv, mv = fun i => decide (i ∈ ms) := ⟨_, rfl⟩
 rw [<- hmv] at ih ⊢
 obtain ⟨b1, b2⟩ := hh.wB u hu
 have c1 := znz u.id A hh.hA
 have c2 := z85 u.head h1
 have c3 := z85 u.words h2
 rw [show u.head.map (·.text) = txt u.head from rfl] at c2
 rw [show u.words.map (·.text) = txt u.words from rfl] at c3
 have l1 : (txt u.head).length <= 256 := by unfold txt; rw [List.length_map]; exact b1
 have l2 : (txt u.words).length <= 256 := by unfold txt; rw [List.length_map]; exact b2
 refine z2f 4 (by simp only [pureD.pureL, z5g, z0a, pureD, Bool.and_self]) (z2j _) (z23 [8000000, 3000023, 3000025, 3000027, 3000029, 5000030, 5000031, 3000033, 5000034, 5000035, 3000058, 3000060, 3000062, 3000064, 5000065, 3000067, 5000068, 5000069, 3000071, 5000072, 3000074, 5000075, 5000076, 3000045, 3000046, 3000048, 3000050, 3000051, 5000052, 3000107, 3000111, 3000113, 3000115, 3000117, 5000118, 3000122, 3000123, 3000125, 3000127, 3000128, 5000129, 3000137, 3000141, 3000143, 3000145, 3000147, 5000148, 3000152, 3000153, 3000155, 3000157, 3000158, 5000159, 3000171, 3000172, 3000174, 3000176, 3000177, 5000178] func25 rfl (by decide +kernel) rfl ?_)
 show awp _ _ (Code.seq _ _) _ _
 rw [show Tryz.f25.results.toList = [.cell 4 33] from rfl]
 cases hkA : z26 u.id A
 ·have hf1 : (findR u.id A).2 = false := hkA
  have hx0 : (findR u.id A).1 = T.zero := by
   unfold z26 findR at hkA
   unfold findR
   split at hkA
   ·cases hkA
   ·rfl
  have hmf : mv u.id = false := by
   cases h : mv u.id with
   | false => rfl
   | true =>
    rw [hmv] at h
    have := (hh.bk.kept u.id h).1
    rw [z1k, decide_eq_false_iff_not] at hkA
    exact absurd this hkA
  rw [hf1, hx0] at c1
  have e : z2l A B mv u = .mk 1 u.kind u.id u.label ByteArray.empty false ((txt u.head).map (stW 1)) ((txt u.words).map (stW 1)) (u.kids.map (z2l A B mv)) := by
   rw [z8d, z6c, hkA, hmf, hx0]
   rw [show (T.zero).kids = [] from rfl, show (T.zero).head = [] from rfl, show (T.zero).words = [] from rfl, zh7, show txt [] = [] from rfl, zh6, zh6, List.map_map]
   simp only [Bool.false_eq_true, false_and, if_false]
   rfl
  have c4 := z6j 1 (by decide) (txt u.head) (by omega)
  have c5 := z6j 1 (by decide) (txt u.words) (by omega)
  obtain ⟨gh, hgh⟩ : ∃ gh, gh = (txt u.head).map (stW 1) := ⟨_, rfl⟩
  obtain ⟨gw, hgw⟩ : ∃ gw, gw = (txt u.words).map (stW 1) := ⟨_, rfl⟩
  rw [<- hgh] at c4 e
  rw [<- hgw] at c5 e
  obtain ⟨th, hth⟩ : ∃ th, th = txt u.head := ⟨_, rfl⟩
  obtain ⟨tw, htw⟩ : ∃ tw, tw = txt u.words := ⟨_, rfl⟩
  rw [<- hth] at c2 c4
  rw [<- htw] at c3 c5
  unfold z0k at c4 c5
  repeat' (first | refine nxt ?_ | ((first | refine z1n (N := 4) rfl fun K hK => ?_ | refine z5l (N := 4) rfl (by decide +kernel) fun K hK => ?_ | refine zqs (c1) ?_ | refine zqt (c2) ?_ | refine zqt (c3) ?_ | refine zqt (c4) ?_ | refine zqt (c5) ?_); (simp (disch := omega) only [go_sem, Nat.reduceBEq, Nat.reduceEqDiff, ↓reduceIte, reduceCtorEq, Nat.reduceAdd, Nat.reduceLeDiff, z1y])) | (refine zqd _ rfl ?_ ?_ <;> intro hc <;> (first | (cases hc; done) | ((try simp only [] at hc); (try omega)))) | (refine hK _ ?_; clear hK K))
  refine z3k fun K hK => ?_
  (simp (disch := omega) only [go_sem])
  refine hK _ _ (z7k (b := 4) (off := 10) (e := 33) 33 (by (simp (disch := omega) only [go_sem, Nat.reduceBEq]); rfl) rfl) ?_
  clear hK K
  repeat' (refine zqa ?_)
  (refine z3i (fun U st => ∃ (i : _), U = u.kids.length - i /\ st.t 2 = .ptr 0 0 /\ st.t 3 = .ptr 1 0 /\ st.t 4 = .ptr 2 0 /\ st.t 7 = .ptr 4 0 /\ st.t 8 = .int .i64 i /\ st.H (0) = some (.box 59 (z1i A B ms)) /\ st.H (1) = some (.box 27 (z06 u)) /\ st.H (2) = some (.box 33 [.int .i64 0, .int .i64 0, .int .i64 0, .int .i64 0, .int .i64 0, .str ByteArray.empty, .str ByteArray.empty, .bool false, .nil, .nil, .nil]) /\ st.H (4) = some (.box 33 [.int .i64 1, .int .i64 u.kind, .int .i64 u.id.act, .int .i64 u.id.item, .int .i64 u.id.n, .str u.label, .str ByteArray.empty, .bool false, z0k gh, z0k gw, .osl 5 i]) /\ st.H (5) = some (.row 33 i (((u.kids.take i).map (z2l A B mv)).flatMap z0p)) /\ st.nx = 6 /\ (i <= u.kids.length)) ?_ ?_); rotate_left; (rintro U st ⟨i, rfl, q2, q3, q4, q7, q8, qH0, qH1, qH2, qH4, qH5, qnx, qp0⟩); rotate_left
  ·(refine ⟨_, 0, rfl, ?_⟩); (simp (disch := omega) only [go_sem, Nat.reduceBEq, Nat.reduceAdd, and_self, Int.natCast_zero, List.flatMap_nil, List.map_nil, z0k])
  by_cases hi : i < u.kids.length
  ·have hin := ih u.kids[i] (List.getElem_mem hi)
   repeat' (first | refine nxt ?_ | ((first | refine zqh fun K hK => ?_ | refine zqr fun K hK => ?_ | refine zqq (by decide +kernel) fun K hK => ?_ | refine zqt (hin) ?_); (simp (disch := omega) only [go_sem, Nat.reduceBEq, Nat.reduceEqDiff, ↓reduceIte, reduceCtorEq, Nat.reduceAdd, Nat.reduceMul, Nat.reduceLeDiff, Nat.reduceLT, q2, q3, q7, q8, qH0, qH1, qH4, qH5, qnx, z0b])) | (refine zqd _ rfl ?_ ?_ <;> intro hc <;> (((try simp only [z03] at hc); (try omega)))) | (refine hK _ ?_; clear hK K))
   (refine Exists.intro _ (And.intro ?_ ⟨i + 1, rfl, ?_⟩)); rotate_left; (simp (disch := omega) only [go_sem, Nat.reduceBEq, q2, q3, q4, q7, q8, qH0, qH1, qH2, qH4, qH5, true_and, Int.natCast_add, Int.natCast_one, List.flatMap_append, List.flatMap_cons, List.flatMap_nil, List.map_append, List.map_cons, List.map_nil, List.append_nil, List.take_succ_eq_append_getElem hi]); rotate_left
   ·omega
   ·omega
  ·repeat' (first | refine nxt ?_ | ((refine zqh fun K hK => ?_); (simp (disch := omega) only [go_sem, Nat.reduceBEq, ↓reduceIte, reduceCtorEq, Nat.reduceAdd, Nat.reduceLeDiff, q3, q4, q7, q8, qH1, qH2, qH4, qnx, z0b])) | (refine zqd _ rfl ?_ ?_ <;> intro hc <;> (((try simp only [z03] at hc); (try omega)))) | refine zqz ?_ | refine zqu (by (simp (disch := omega) only [go_sem, Nat.reduceBEq, ↓reduceIte, Nat.reduceAdd, Nat.reduceLeDiff, q4, qH2]); rfl) rfl ?_ | (refine hK _ ?_; clear hK K))
   have hie : i = (u.kids.map (z2l A B mv)).length := by rw [List.length_map]; omega
   have hta : u.kids.take i = u.kids := List.take_of_length_le (by omega)
   rw [hta] at qH5
   rw [e, z58, z10]
   refine z47 (nx := 0) (z8s (k := 3) (by simp [pureD.pureL, pureD]) ?_)
   refine z04 (z02 2 rfl) (z04 (z02 2 rfl) (z04 (z02 2 rfl) (z04 (z02 2 rfl) (z04 (z02 2 rfl) (z04 (z02 2 rfl) (z04 (z02 2 rfl) (z04 (z02 2 rfl) (z04 (z02 2 (z1m _)) (z04 (z02 2 (z1m _)) (z04 ?_ z3r))))))))))
   rw [hie]
   refine z0t (f := z0p) (l := u.kids.map (z2l A B mv)) 1 ?_ zb5 zey z2p z32
   rw [hie] at qH5
   (simp (disch := omega) only [go_sem, Nat.reduceBEq, qH5])
 ·obtain ⟨x, hx⟩ : ∃ x, x = (findR u.id A).1 := ⟨_, rfl⟩
  have hxn : x ∈ nodesT A := by rw [hx]; exact z3o (id := u.id) (u := A) hkA
  have hf1 : (findR u.id A).2 = true := hkA
  rw [hf1, <- hx] at c1
  have xs := z95 A hh.hA _ hxn
  obtain ⟨x0, x1, y1, x2, y2, x3, x4⟩ := (z2o x).1 xs
  obtain ⟨a1, a2⟩ := hh.wA x hxn
  have d2 := z85 x.head x1
  have d3 := z85 x.words x2
  rw [show x.head.map (·.text) = txt x.head from rfl] at d2
  rw [show x.words.map (·.text) = txt x.words from rfl] at d3
  have c4 := zek (txt x.head) (txt u.head) (by unfold txt; rw [List.length_map]; exact a1) l1
  have c5 := zek (txt x.words) (txt u.words) (by unfold txt; rw [List.length_map]; exact a2) l2
  obtain ⟨S, hS⟩ : ∃ S : Int, S = if mv u.id = true then 1 else 0 := ⟨_, rfl⟩
  obtain ⟨W, hW⟩ : ∃ W, W = if x.label = u.label then ByteArray.empty else x.label := ⟨_, rfl⟩
  obtain ⟨sB, hsB⟩ : ∃ sB, sB = stayB A B mv := ⟨_, rfl⟩
  obtain ⟨gh, hgh⟩ : ∃ gh, gh = z3h (txt x.head) (txt u.head) := ⟨_, rfl⟩
  obtain ⟨gw, hgw⟩ : ∃ gw, gw = z3h (txt x.words) (txt u.words) := ⟨_, rfl⟩
  obtain ⟨G, hG⟩ : ∃ G, G = mg sB (z3e B) x.kids (u.kids.map fun k => (k.id, z2l A B mv k)) := ⟨_, rfl⟩
  have e : z2l A B mv u = .mk S u.kind u.id u.label W (mv u.id) gh gw G := by
   rw [z8d, z6c, hkA, <- hx, hG, hgh, hgw, hsB, hS, hW]
   cases mv u.id <;> by_cases hl : x.label = u.label <;> simp [hl]
  rw [<- hgh] at c4
  rw [<- hgw] at c5
  obtain ⟨th, hth⟩ : ∃ th, th = txt u.head := ⟨_, rfl⟩
  obtain ⟨tw, htw⟩ : ∃ tw, tw = txt u.words := ⟨_, rfl⟩
  obtain ⟨sh, hsh⟩ : ∃ sh, sh = txt x.head := ⟨_, rfl⟩
  obtain ⟨sw, hsw⟩ : ∃ sw, sw = txt x.words := ⟨_, rfl⟩
  rw [<- hth] at c2 c4
  rw [<- htw] at c3 c5
  rw [<- hsh] at d2 c4
  rw [<- hsw] at d3 c5
  unfold z0k at c4 c5
  have c6 := ztu ms u.id hh.hm
  rw [show decide (u.id ∈ ms) = mv u.id by rw [hmv]] at c6
  clear hgh hgw hth htw hsh hsw
  repeat' (first | refine nxt ?_ | ((first | refine z1n (N := 10) rfl fun K hK => ?_ | refine z5l (N := 10) rfl (by decide +kernel) fun K hK => ?_ | refine zqs (c1) ?_ | refine zqt (c2) ?_ | refine zqt (c3) ?_ | refine zqt (d2) ?_ | refine zqt (d3) ?_ | refine zqt (c4) ?_ | refine zqt (c5) ?_); (simp (disch := omega) only [go_sem, Nat.reduceBEq, Nat.reduceEqDiff, ↓reduceIte, reduceCtorEq, Nat.reduceAdd, Nat.reduceLeDiff, Nat.reduceLT, z1y])) | (refine zqd _ rfl ?_ ?_ <;> intro hc <;> (first | (cases hc; done) | ((try simp only [] at hc); (try omega)))) | (refine hK _ ?_; clear hK K))
  (refine z7w (fun st => st.t 2 = .ptr 0 0 /\ st.t 3 = .ptr 1 0 /\ st.t 4 = .ptr 2 0 /\ st.t 5 = .ptr 3 0 /\ st.t 9 = .ptr 4 0 /\ st.H (0) = some (.box 59 (z1i A B ms)) /\ st.H (1) = some (.box 27 (z06 u)) /\ st.H (2) = some (.box 33 [.int .i64 0, .int .i64 0, .int .i64 0, .int .i64 0, .int .i64 0, .str ByteArray.empty, .str ByteArray.empty, .bool false, .nil, .nil, .nil]) /\ st.H (3) = some (.box 27 (z06 x)) /\ st.H (4) = some (.box 33 [.int .i64 S, .int .i64 u.kind, .int .i64 u.id.act, .int .i64 u.id.item, .int .i64 u.id.n, .str u.label, .str ByteArray.empty, .bool (mv u.id), z0k gh, z0k gw, .nil]) /\ st.nx = 5 /\ (True)) ?_ ?_); rotate_left; (rintro st ⟨r2, r3, r4, r5, r9, rH0, rH1, rH2, rH3, rH4, rnx, rp0⟩); rotate_left
  ·cases hm : mv u.id
   ·rw [hm] at c6 hS
    repeat' (first | ((first | refine zqh fun K hK => ?_ | refine zqs (c6) ?_); (simp (disch := omega) only [go_sem, Nat.reduceBEq, ↓reduceIte, reduceCtorEq, Nat.reduceAdd, Nat.reduceLeDiff])) | ((refine zqm _ rfl (fun hc => ?_) (fun hc => ?_)) <;> (first | (cases hc; done) | ((try simp only [] at hc); (try omega)))) | refine nxt ?_ | (refine hK _ ?_; clear hK K))
    (refine zb6 ?_); (simp (disch := omega) only [go_sem, Nat.reduceBEq, ↓reduceIte, and_self, z0k, hS])
   ·rw [hm] at c6 hS
    repeat' (first | ((first | refine zqh fun K hK => ?_ | refine zqr fun K hK => ?_ | refine zqs (c6) ?_); (simp (disch := omega) only [go_sem, Nat.reduceBEq, ↓reduceIte, reduceCtorEq, Nat.reduceAdd, Nat.reduceLeDiff, Nat.reduceLT])) | ((refine zqm _ rfl (fun hc => ?_) (fun hc => ?_)) <;> (first | (cases hc; done) | ((try simp only [] at hc); (try omega)))) | (refine hK _ ?_; clear hK K))
    (refine zb6 ?_); (simp (disch := omega) only [go_sem, Nat.reduceBEq, ↓reduceIte, and_self, z0k, hS])
  (refine z55 (fun st => st.t 2 = .ptr 0 0 /\ st.t 3 = .ptr 1 0 /\ st.t 4 = .ptr 2 0 /\ st.t 5 = .ptr 3 0 /\ st.t 9 = .ptr 4 0 /\ st.H (0) = some (.box 59 (z1i A B ms)) /\ st.H (1) = some (.box 27 (z06 u)) /\ st.H (2) = some (.box 33 [.int .i64 0, .int .i64 0, .int .i64 0, .int .i64 0, .int .i64 0, .str ByteArray.empty, .str ByteArray.empty, .bool false, .nil, .nil, .nil]) /\ st.H (3) = some (.box 27 (z06 x)) /\ st.H (4) = some (.box 33 [.int .i64 S, .int .i64 u.kind, .int .i64 u.id.act, .int .i64 u.id.item, .int .i64 u.id.n, .str u.label, .str W, .bool (mv u.id), z0k gh, z0k gw, .nil]) /\ st.nx = 5 /\ (True)) ?_ ?_); rotate_left; (rintro st ⟨v2, v3, v4, v5, v9, vH0, vH1, vH2, vH3, vH4, vnx, vp0⟩); rotate_left
  ·by_cases hl : x.label = u.label
   ·rw [if_pos hl] at hW
    repeat' (first | ((refine zqh fun K hK => ?_); (simp (disch := omega) only [go_sem, Nat.reduceBEq, ↓reduceIte, reduceCtorEq, Nat.reduceAdd, r3, r5, rH1, rH3, hl])) | ((refine zqm _ rfl (fun hc => ?_) (fun hc => ?_)) <;> (first | (cases hc; done) | ((try simp only [] at hc); (try omega)))) | refine nxt ?_ | (refine hK _ ?_; clear hK K))
    (refine zb6 ?_); (simp (disch := omega) only [go_sem, Nat.reduceBEq, r2, r3, r4, r5, r9, rH0, rH1, rH2, rH3, rH4, rnx, and_self, hW])
   ·rw [if_neg hl] at hW
    repeat' (first | ((first | refine zqh fun K hK => ?_ | refine zqr fun K hK => ?_); (simp (disch := omega) only [go_sem, Nat.reduceBEq, ↓reduceIte, reduceCtorEq, Nat.reduceAdd, Nat.reduceLeDiff, Nat.reduceLT, r3, r5, r9, rH1, rH3, rH4, rnx, hl])) | ((refine zqm _ rfl (fun hc => ?_) (fun hc => ?_)) <;> (first | (cases hc; done) | ((try simp only [] at hc); (try omega)))) | (refine hK _ ?_; clear hK K))
    (refine zb6 ?_); (simp (disch := omega) only [go_sem, Nat.reduceBEq, r2, r3, r4, r5, r9, rH0, rH1, rH2, rH3, rH4, and_self, hW])
  repeat' skip
  refine z3k fun K hK => ?_
  (simp (disch := omega) only [go_sem, vnx])
  refine hK _ _ (z7k (b := 4) (off := 10) (e := 33) 33 (by (simp (disch := omega) only [go_sem, vH4]); rfl) rfl) ?_
  clear hK K
  obtain ⟨fr, hfr⟩ : ∃ fr, fr = u.kids.map fun k => (k.id, z2l A B mv k) := ⟨_, rfl⟩
  have hfl : fr.length = u.kids.length := by rw [hfr, List.length_map]
  rw [<- hfr] at hG
  have hGl : G.length <= 2000000 := by have := mg_le sB (z3e B) x.kids fr; rw [<- hG] at this; omega
  have cs := fun i => zr8 A B ms hh.hA hh.hB hh.hm i
  rw [<- hmv, <- hsB] at cs
  clear c1 c2 c3 c4 c5 c6 d2 d3
  repeat' (refine zqa ?_)
  (refine z3i (fun U st => ∃ (i : Nat) (k : Nat) (out : List TT), U = (x.kids.length - i) + (u.kids.length - k) /\ st.t 2 = .ptr 0 0 /\ st.t 3 = .ptr 1 0 /\ st.t 4 = .ptr 2 0 /\ st.t 5 = .ptr 3 0 /\ st.t 9 = .ptr 4 0 /\ st.H (0) = some (.box 59 (z1i A B ms)) /\ st.H (1) = some (.box 27 (z06 u)) /\ st.H (2) = some (.box 33 [.int .i64 0, .int .i64 0, .int .i64 0, .int .i64 0, .int .i64 0, .str ByteArray.empty, .str ByteArray.empty, .bool false, .nil, .nil, .nil]) /\ st.H (3) = some (.box 27 (z06 x)) /\ st.H (4) = some (.box 33 [.int .i64 S, .int .i64 u.kind, .int .i64 u.id.act, .int .i64 u.id.item, .int .i64 u.id.n, .str u.label, .str W, .bool (mv u.id), z0k gh, z0k gw, .osl 5 out.length]) /\ st.H (5) = some (.row 33 out.length (out.flatMap z0p)) /\ st.t 10 = .int .i64 i /\ st.t 11 = .int .i64 k /\ st.nx = 6 /\ (i + k + 3 * ((x.kids.length - i) + (u.kids.length - k)) <= 3 * (x.kids.length + u.kids.length) + 2) /\ (out ++ mg sB (z3e B) (x.kids.drop i) (fr.drop k) = G)) ?_ ?_); rotate_left; (rintro U st ⟨i, k, out, rfl, w2, w3, w4, w5, w9, wH0, wH1, wH2, wH3, wH4, wH5, w10, w11, wnx, wp0, wp1⟩); rotate_left
  ·(refine ⟨_, 0, 0, [], rfl, ?_⟩); (simp (disch := omega) only [go_sem, Nat.reduceBEq, Nat.reduceAdd, v2, v3, v4, v5, v9, vH0, vH1, vH2, vH3, vH4, true_and, Int.natCast_zero, List.flatMap_nil, List.nil_append])
   exact ⟨by omega, hG.symm⟩
  by_cases hik : i < x.kids.length \/ k < u.kids.length
  rotate_left
  ·repeat' (first | refine nxt ?_ | ((refine zqh fun K hK => ?_); (simp (disch := omega) only [go_sem, Nat.reduceBEq, ↓reduceIte, reduceCtorEq, Nat.reduceAdd, Nat.reduceLeDiff, w4, w5, w9, wH2, wH3, wH4, w10, wnx, z0b])) | (refine zqd _ rfl ?_ ?_ <;> intro hc <;> (((try simp only [z03] at hc); (try omega)))) | refine zqz ?_ | refine zqu (by (simp (disch := omega) only [go_sem, Nat.reduceBEq, ↓reduceIte, Nat.reduceAdd, Nat.reduceLeDiff, w4, wH2]); rfl) rfl ?_ | (refine hK _ ?_; clear hK K) | (refine zqf (fun hb => ?_) (fun hb => ?_) <;> (have hb2 := hb; try simp only [z03] at hb2) <;> ((first | have F := eq_false hb2 | have F := eq_true hb2); (simp (disch := omega) only [go_sem, Nat.reduceBEq, ↓reduceIte, reduceCtorEq, Nat.reduceAdd, F, w3, wH1, w11, z0b]); clear hb F; (try omega))))
   have hxn : x.kids.drop i = [] := List.drop_eq_nil_of_le (by omega)
   have hfn : fr.drop k = [] := List.drop_eq_nil_of_le (by omega)
   rw [hxn, hfn, zh7, List.map_nil, List.append_nil] at wp1
   subst wp1
   rw [e, z58, z10]
   refine z47 (nx := 0) (z8s (k := 3) (by simp [pureD.pureL, pureD]) ?_)
   refine z04 (z02 2 rfl) (z04 (z02 2 rfl) (z04 (z02 2 rfl) (z04 (z02 2 rfl) (z04 (z02 2 rfl) (z04 (z02 2 rfl) (z04 (z02 2 rfl) (z04 (z02 2 rfl) (z04 (z02 2 (z1m _)) (z04 (z02 2 (z1m _)) (z04 ?_ z3r))))))))))
   refine z0t (f := z0p) (l := out) 1 ?_ zb5 zey z2p z32
   (simp (disch := omega) only [go_sem, Nat.reduceBEq, wH5])
  obtain ⟨m0, hm0⟩ : ∃ m0, (x.kids.length - i) + (u.kids.length - k) = m0 := ⟨_, rfl⟩
  have hm1 : 0 < m0 := by omega
  (refine z55 (fun st => st.t 2 = .ptr 0 0 /\ st.t 3 = .ptr 1 0 /\ st.t 4 = .ptr 2 0 /\ st.t 5 = .ptr 3 0 /\ st.t 9 = .ptr 4 0 /\ st.H (0) = some (.box 59 (z1i A B ms)) /\ st.H (1) = some (.box 27 (z06 u)) /\ st.H (2) = some (.box 33 [.int .i64 0, .int .i64 0, .int .i64 0, .int .i64 0, .int .i64 0, .str ByteArray.empty, .str ByteArray.empty, .bool false, .nil, .nil, .nil]) /\ st.H (3) = some (.box 27 (z06 x)) /\ st.H (4) = some (.box 33 [.int .i64 S, .int .i64 u.kind, .int .i64 u.id.act, .int .i64 u.id.item, .int .i64 u.id.n, .str u.label, .str W, .bool (mv u.id), z0k gh, z0k gw, .osl 5 out.length]) /\ st.H (5) = some (.row 33 out.length (out.flatMap z0p)) /\ st.t 10 = .int .i64 i /\ st.t 11 = .int .i64 k /\ st.nx = 6 /\ (True)) ?_ ?_); rotate_left; (rintro st ⟨b2, b3, b4, b5, b9, bH0, bH1, bH2, bH3, bH4, bH5, b10, b11, bnx, bp0⟩); rotate_left
  ·repeat' (first | ((refine zqh fun K hK => ?_); (simp (disch := omega) only [go_sem, Nat.reduceBEq, ↓reduceIte, reduceCtorEq, Nat.reduceAdd, w5, wH3, w10, z0b])) | ((refine zqm _ rfl (fun hc => ?_) (fun hc => ?_)) <;> (first | (cases hc; done) | ((try simp only [z03] at hc); (try omega)))) | refine nxt ?_ | (refine hK _ ?_; clear hK K) | (refine zqf (fun hb => ?_) (fun hb => ?_) <;> (have hb2 := hb; try simp only [z03] at hb2) <;> ((first | have F := eq_false hb2 | have F := eq_true hb2); (simp (disch := omega) only [go_sem, Nat.reduceBEq, ↓reduceIte, reduceCtorEq, Nat.reduceAdd, F, w3, wH1, w11, z0b]); clear hb F; (try omega))))
   all_goals
    (refine zb6 ?_); (simp (disch := omega) only [go_sem, Nat.reduceBEq, w2, w3, w4, w5, w9, wH0, wH1, wH2, wH3, wH4, wH5, w10, w11, wnx, and_self])
  refine zqi ?_
  (refine z55 (fun st => ∃ (i : Nat) (k : Nat) (out : List TT), st.t 2 = .ptr 0 0 /\ st.t 3 = .ptr 1 0 /\ st.t 4 = .ptr 2 0 /\ st.t 5 = .ptr 3 0 /\ st.t 9 = .ptr 4 0 /\ st.H (0) = some (.box 59 (z1i A B ms)) /\ st.H (1) = some (.box 27 (z06 u)) /\ st.H (2) = some (.box 33 [.int .i64 0, .int .i64 0, .int .i64 0, .int .i64 0, .int .i64 0, .str ByteArray.empty, .str ByteArray.empty, .bool false, .nil, .nil, .nil]) /\ st.H (3) = some (.box 27 (z06 x)) /\ st.H (4) = some (.box 33 [.int .i64 S, .int .i64 u.kind, .int .i64 u.id.act, .int .i64 u.id.item, .int .i64 u.id.n, .str u.label, .str W, .bool (mv u.id), z0k gh, z0k gw, .osl 5 out.length]) /\ st.H (5) = some (.row 33 out.length (out.flatMap z0p)) /\ st.t 10 = .int .i64 i /\ st.t 11 = .int .i64 k /\ st.nx = 6 /\ (i + k + 3 * ((x.kids.length - i) + (u.kids.length - k)) <= 3 * (x.kids.length + u.kids.length) + 2) /\ ((x.kids.length - i) + (u.kids.length - k) ≠ 0 \/ i + k + 2 <= 3 * (x.kids.length + u.kids.length) + 2) /\ (((x.kids.length - i) + (u.kids.length - k)) <= m0) /\ (out ++ mg sB (z3e B) (x.kids.drop i) (fr.drop k) = G) /\ (Hd sB (x.kids.drop i))) ?_ ?_); rotate_left; (rintro st ⟨i, k, out, c2, c3, c4, c5, c9, cH0, cH1, cH2, cH3, cH4, cH5, c10, c11, cnx, cp0, cp1, cp2, cp3, cp4⟩); rotate_left
  ·skip
   refine zqi ?_
   (refine z3i (fun U st => ∃ (i : Nat) (k : Nat) (out : List TT), U = x.kids.length - i /\ st.t 2 = .ptr 0 0 /\ st.t 3 = .ptr 1 0 /\ st.t 4 = .ptr 2 0 /\ st.t 5 = .ptr 3 0 /\ st.t 9 = .ptr 4 0 /\ st.H (0) = some (.box 59 (z1i A B ms)) /\ st.H (1) = some (.box 27 (z06 u)) /\ st.H (2) = some (.box 33 [.int .i64 0, .int .i64 0, .int .i64 0, .int .i64 0, .int .i64 0, .str ByteArray.empty, .str ByteArray.empty, .bool false, .nil, .nil, .nil]) /\ st.H (3) = some (.box 27 (z06 x)) /\ st.H (4) = some (.box 33 [.int .i64 S, .int .i64 u.kind, .int .i64 u.id.act, .int .i64 u.id.item, .int .i64 u.id.n, .str u.label, .str W, .bool (mv u.id), z0k gh, z0k gw, .osl 5 out.length]) /\ st.H (5) = some (.row 33 out.length (out.flatMap z0p)) /\ st.t 10 = .int .i64 i /\ st.t 11 = .int .i64 k /\ st.nx = 6 /\ (i + k + 3 * ((x.kids.length - i) + (u.kids.length - k)) <= 3 * (x.kids.length + u.kids.length) + 2) /\ ((x.kids.length - i) + (u.kids.length - k) ≠ 0 \/ i + k + 2 <= 3 * (x.kids.length + u.kids.length) + 2) /\ (((x.kids.length - i) + (u.kids.length - k)) <= m0) /\ (out ++ mg sB (z3e B) (x.kids.drop i) (fr.drop k) = G)) ?_ ?_); rotate_left; (rintro U st ⟨i, k, out, rfl, a2, a3, a4, a5, a9, aH0, aH1, aH2, aH3, aH4, aH5, a10, a11, anx, ap0, ap1, ap2, ap3⟩); rotate_left
   ·(refine ⟨_, i, k, out, rfl, ?_⟩); (simp (disch := omega) only [go_sem, Nat.reduceLeDiff, b2, b3, b4, b5, b9, bH0, bH1, bH2, bH3, bH4, bH5, b10, b11, bnx, true_and])
    exact ⟨by omega, by omega, by omega, wp1⟩
   have hol := congrArg List.length ap3
   rw [List.length_append] at hol
   by_cases hia : i < x.kids.length
   ·have hdr := List.drop_eq_getElem_cons hia
    have csi := cs x.kids[i].id
    cases hst : sB x.kids[i].id
    ·rw [hst] at csi
     have cold := zz2 A B ms hh.hB x.kids[i] (x4 _ (List.getElem_mem hia))
     rw [hdr, mg_go hst] at ap3 hol
     rw [List.length_cons] at hol
     repeat' (first | refine nxt ?_ | ((first | refine zqe (by decide +kernel) fun K hK => ?_ | refine zqr fun K hK => ?_ | refine zqt (csi) ?_ | refine zqt (cold) ?_); (simp (disch := omega) only [go_sem, Nat.reduceBEq, Nat.reduceEqDiff, ↓reduceIte, reduceCtorEq, Nat.reduceAdd, Nat.reduceMul, Nat.reduceLeDiff, Nat.reduceLT, a2, a5, a9, aH0, aH3, aH4, aH5, a10, anx, z0b])) | (refine zqd _ rfl ?_ ?_ <;> intro hc <;> (first | (cases hc; done) | ((try simp only [] at hc); (try omega)))) | (refine hK _ ?_; clear hK K) | (refine zqf (fun hb => ?_) (fun hb => ?_) <;> (have hb2 := hb; try simp only [z03] at hb2) <;> ((first | have F := eq_false hb2 | have F := eq_true hb2); (simp (disch := omega) only [go_sem, Nat.reduceBEq, Nat.reduceEqDiff, ↓reduceIte, reduceCtorEq, Nat.reduceAdd, Nat.reduceLeDiff, F, a2, a5, aH0, aH3, a10, anx, z0b]); clear hb F; (try omega))))
     (refine Exists.intro _ (And.intro ?_ ⟨i + 1, k, out ++ [z3e B x.kids[i]], rfl, ?_⟩)); rotate_left; (simp (disch := omega) only [go_sem, Nat.reduceBEq, Nat.reduceLeDiff, a2, a3, a4, a5, a9, aH0, aH1, aH2, aH3, aH4, aH5, a10, a11, true_and, Int.natCast_add, Int.natCast_one, List.flatMap_append, List.flatMap_cons, List.flatMap_nil, List.append_nil, List.length_append, List.length_cons, List.length_nil]); rotate_left
     ·omega
     ·exact ⟨by omega, by omega, by omega, by simp only [List.append_assoc]; exact ap3⟩
    ·rw [hst] at csi
     have hHd : Hd sB (x.kids.drop i) := .inr ⟨_, _, hdr, hst⟩
     repeat' (first | refine nxt ?_ | ((first | refine zqe (by decide +kernel) fun K hK => ?_ | refine zqt (csi) ?_); (simp (disch := omega) only [go_sem, Nat.reduceBEq, Nat.reduceEqDiff, ↓reduceIte, reduceCtorEq, Nat.reduceAdd, a5, aH3, a10, anx, z0b])) | (refine zqd _ rfl ?_ ?_ <;> intro hc <;> (first | (cases hc; done) | ((try simp only [] at hc); (try omega)))) | refine zqz ?_ | (refine hK _ ?_; clear hK K) | (refine zqf (fun hb => ?_) (fun hb => ?_) <;> (have hb2 := hb; try simp only [z03] at hb2) <;> ((first | have F := eq_false hb2 | have F := eq_true hb2); (simp (disch := omega) only [go_sem, Nat.reduceBEq, Nat.reduceEqDiff, ↓reduceIte, reduceCtorEq, Nat.reduceAdd, Nat.reduceLeDiff, F, a2, a5, aH0, aH3, a10, anx, z0b]); clear hb F; (try omega))))
     refine zb6 ⟨i, k, out, ?_⟩
     (simp (disch := omega) only [go_sem, Nat.reduceBEq, Nat.reduceLeDiff, a2, a3, a4, a5, a9, aH0, aH1, aH2, aH3, aH4, aH5, a10, a11, anx, true_and])
     exact ⟨ap0, by omega, ap2, ap3, hHd⟩
   ·have hHd : Hd sB (x.kids.drop i) := .inl (List.drop_eq_nil_of_le (by omega))
    repeat' (first | refine nxt ?_ | ((refine zqe (by decide +kernel) fun K hK => ?_); (simp (disch := omega) only [go_sem, Nat.reduceBEq, Nat.reduceEqDiff, ↓reduceIte, reduceCtorEq, Nat.reduceAdd, a5, aH3, a10, anx, z0b])) | (refine zqd _ rfl ?_ ?_ <;> intro hc <;> (first | (cases hc; done) | ((try simp only [] at hc); (try omega)))) | refine zqz ?_ | (refine hK _ ?_; clear hK K) | (refine zqf (fun hb => ?_) (fun hb => ?_) <;> (have hb2 := hb; try simp only [z03] at hb2) <;> ((first | have F := eq_false hb2 | have F := eq_true hb2); (simp (disch := omega) only [go_sem, Nat.reduceBEq, Nat.reduceEqDiff, ↓reduceIte, reduceCtorEq, Nat.reduceAdd, Nat.reduceLeDiff, F, a2, a5, aH0, aH3, a10, anx, z0b]); clear hb F; (try omega))))
    refine zb6 ⟨i, k, out, ?_⟩
    (simp (disch := omega) only [go_sem, Nat.reduceBEq, Nat.reduceLeDiff, a2, a3, a4, a5, a9, aH0, aH1, aH2, aH3, aH4, aH5, a10, a11, anx, true_and])
    exact ⟨ap0, by omega, ap2, ap3, hHd⟩
  clear vp0 v2 v3 v4 v5 v9 vH0 vH1 vH2 vH3 vH4 vnx
  have hfk : ∀ k (O : k < u.kids.length), fr.drop k = (u.kids[k].id, z2l A B mv u.kids[k]) :: fr.drop (k + 1) := fun k O => by
   rw [List.drop_eq_getElem_cons (by omega)]
   simp only [hfr, List.getElem_map]
  (refine z55 (fun st => ∃ (i : Nat) (k : Nat) (out : List TT), st.t 2 = .ptr 0 0 /\ st.t 3 = .ptr 1 0 /\ st.t 4 = .ptr 2 0 /\ st.t 5 = .ptr 3 0 /\ st.t 9 = .ptr 4 0 /\ st.H (0) = some (.box 59 (z1i A B ms)) /\ st.H (1) = some (.box 27 (z06 u)) /\ st.H (2) = some (.box 33 [.int .i64 0, .int .i64 0, .int .i64 0, .int .i64 0, .int .i64 0, .str ByteArray.empty, .str ByteArray.empty, .bool false, .nil, .nil, .nil]) /\ st.H (3) = some (.box 27 (z06 x)) /\ st.H (4) = some (.box 33 [.int .i64 S, .int .i64 u.kind, .int .i64 u.id.act, .int .i64 u.id.item, .int .i64 u.id.n, .str u.label, .str W, .bool (mv u.id), z0k gh, z0k gw, .osl 5 out.length]) /\ st.H (5) = some (.row 33 out.length (out.flatMap z0p)) /\ st.t 10 = .int .i64 i /\ st.t 11 = .int .i64 k /\ st.nx = 6 /\ (i + k + 3 * ((x.kids.length - i) + (u.kids.length - k)) <= 3 * (x.kids.length + u.kids.length) + 2) /\ ((x.kids.length - i) + (u.kids.length - k) ≠ 0 \/ i + k + 2 <= 3 * (x.kids.length + u.kids.length) + 2) /\ (((x.kids.length - i) + (u.kids.length - k)) <= m0) /\ (out ++ mg sB (z3e B) (x.kids.drop i) (fr.drop k) = G) /\ (Hd sB (x.kids.drop i)) /\ (HdF sB (fr.drop k))) ?_ ?_); rotate_left; (rintro st ⟨i, k, out, d2, d3, d4, d5, d9, dH0, dH1, dH2, dH3, dH4, dH5, d10, d11, dnx, dp0, dp1, dp2, dp3, dp4, dp5⟩); rotate_left
  ·skip
   refine zqi ?_
   (refine z3i (fun U st => ∃ (i : Nat) (k : Nat) (out : List TT), U = u.kids.length - k /\ st.t 2 = .ptr 0 0 /\ st.t 3 = .ptr 1 0 /\ st.t 4 = .ptr 2 0 /\ st.t 5 = .ptr 3 0 /\ st.t 9 = .ptr 4 0 /\ st.H (0) = some (.box 59 (z1i A B ms)) /\ st.H (1) = some (.box 27 (z06 u)) /\ st.H (2) = some (.box 33 [.int .i64 0, .int .i64 0, .int .i64 0, .int .i64 0, .int .i64 0, .str ByteArray.empty, .str ByteArray.empty, .bool false, .nil, .nil, .nil]) /\ st.H (3) = some (.box 27 (z06 x)) /\ st.H (4) = some (.box 33 [.int .i64 S, .int .i64 u.kind, .int .i64 u.id.act, .int .i64 u.id.item, .int .i64 u.id.n, .str u.label, .str W, .bool (mv u.id), z0k gh, z0k gw, .osl 5 out.length]) /\ st.H (5) = some (.row 33 out.length (out.flatMap z0p)) /\ st.t 10 = .int .i64 i /\ st.t 11 = .int .i64 k /\ st.nx = 6 /\ (i + k + 3 * ((x.kids.length - i) + (u.kids.length - k)) <= 3 * (x.kids.length + u.kids.length) + 2) /\ ((x.kids.length - i) + (u.kids.length - k) ≠ 0 \/ i + k + 2 <= 3 * (x.kids.length + u.kids.length) + 2) /\ (((x.kids.length - i) + (u.kids.length - k)) <= m0) /\ (out ++ mg sB (z3e B) (x.kids.drop i) (fr.drop k) = G) /\ (Hd sB (x.kids.drop i))) ?_ ?_); rotate_left; (rintro U st ⟨i, k, out, rfl, a2, a3, a4, a5, a9, aH0, aH1, aH2, aH3, aH4, aH5, a10, a11, anx, ap0, ap1, ap2, ap3, ap4⟩); rotate_left
   ·(refine ⟨_, i, k, out, rfl, ?_⟩); (simp (disch := omega) only [go_sem, Nat.reduceLeDiff, c2, c3, c4, c5, c9, cH0, cH1, cH2, cH3, cH4, cH5, c10, c11, cnx, true_and])
    exact ⟨by omega, by omega, by omega, cp3, cp4⟩
   have hol := congrArg List.length ap3
   rw [List.length_append] at hol
   by_cases hkb : k < u.kids.length
   ·have hdr := hfk k hkb
    have csi := cs u.kids[k].id
    cases hst : sB u.kids[k].id
    ·rw [hst] at csi
     have cfr := ih u.kids[k] (List.getElem_mem hkb)
     rw [hdr, mg_come ap4 hst] at ap3 hol
     rw [List.length_cons] at hol
     repeat' (first | refine nxt ?_ | ((first | refine zqe (by decide +kernel) fun K hK => ?_ | refine zqr fun K hK => ?_ | refine zqt (csi) ?_ | refine zqt (cfr) ?_); (simp (disch := omega) only [go_sem, Nat.reduceBEq, Nat.reduceEqDiff, ↓reduceIte, reduceCtorEq, Nat.reduceAdd, Nat.reduceMul, Nat.reduceLeDiff, Nat.reduceLT, a2, a3, a9, aH0, aH1, aH4, aH5, a11, anx, z0b])) | (refine zqd _ rfl ?_ ?_ <;> intro hc <;> (first | (cases hc; done) | ((try simp only [] at hc); (try omega)))) | (refine hK _ ?_; clear hK K) | (refine zqf (fun hb => ?_) (fun hb => ?_) <;> (have hb2 := hb; try simp only [z03] at hb2) <;> ((first | have F := eq_false hb2 | have F := eq_true hb2); (simp (disch := omega) only [go_sem, Nat.reduceBEq, Nat.reduceEqDiff, ↓reduceIte, reduceCtorEq, Nat.reduceAdd, Nat.reduceLeDiff, F, a2, a3, aH0, aH1, a11, anx, z0b]); clear hb F; (try omega))))
     (refine Exists.intro _ (And.intro ?_ ⟨i, k + 1, out ++ [z2l A B mv u.kids[k]], rfl, ?_⟩)); rotate_left; (simp (disch := omega) only [go_sem, Nat.reduceBEq, Nat.reduceLeDiff, a2, a3, a4, a5, a9, aH0, aH1, aH2, aH3, aH4, aH5, a10, a11, true_and, Int.natCast_add, Int.natCast_one, List.flatMap_append, List.flatMap_cons, List.flatMap_nil, List.append_nil, List.length_append, List.length_cons, List.length_nil]); rotate_left
     ·omega
     ·exact ⟨by omega, by omega, by omega, by simp only [List.append_assoc]; exact ap3, ap4⟩
    ·rw [hst] at csi
     have hHd : HdF sB (fr.drop k) := .inr ⟨_, _, hdr, hst⟩
     repeat' (first | refine nxt ?_ | ((first | refine zqe (by decide +kernel) fun K hK => ?_ | refine zqt (csi) ?_); (simp (disch := omega) only [go_sem, Nat.reduceBEq, Nat.reduceEqDiff, ↓reduceIte, reduceCtorEq, Nat.reduceAdd, a3, aH1, a11, anx, z0b])) | (refine zqd _ rfl ?_ ?_ <;> intro hc <;> (first | (cases hc; done) | ((try simp only [] at hc); (try omega)))) | refine zqz ?_ | (refine hK _ ?_; clear hK K) | (refine zqf (fun hb => ?_) (fun hb => ?_) <;> (have hb2 := hb; try simp only [z03] at hb2) <;> ((first | have F := eq_false hb2 | have F := eq_true hb2); (simp (disch := omega) only [go_sem, Nat.reduceBEq, Nat.reduceEqDiff, ↓reduceIte, reduceCtorEq, Nat.reduceAdd, Nat.reduceLeDiff, F, a2, a3, aH0, aH1, a11, anx, z0b]); clear hb F; (try omega))))
     refine zb6 ⟨i, k, out, ?_⟩
     (simp (disch := omega) only [go_sem, Nat.reduceBEq, Nat.reduceLeDiff, a2, a3, a4, a5, a9, aH0, aH1, aH2, aH3, aH4, aH5, a10, a11, anx, true_and])
     exact ⟨ap0, by omega, ap2, ap3, ap4, hHd⟩
   ·have hHd : HdF sB (fr.drop k) := .inl (List.drop_eq_nil_of_le (by omega))
    repeat' (first | refine nxt ?_ | ((refine zqe (by decide +kernel) fun K hK => ?_); (simp (disch := omega) only [go_sem, Nat.reduceBEq, Nat.reduceEqDiff, ↓reduceIte, reduceCtorEq, Nat.reduceAdd, a3, aH1, a11, anx, z0b])) | (refine zqd _ rfl ?_ ?_ <;> intro hc <;> (first | (cases hc; done) | ((try simp only [] at hc); (try omega)))) | refine zqz ?_ | (refine hK _ ?_; clear hK K) | (refine zqf (fun hb => ?_) (fun hb => ?_) <;> (have hb2 := hb; try simp only [z03] at hb2) <;> ((first | have F := eq_false hb2 | have F := eq_true hb2); (simp (disch := omega) only [go_sem, Nat.reduceBEq, Nat.reduceEqDiff, ↓reduceIte, reduceCtorEq, Nat.reduceAdd, Nat.reduceLeDiff, F, a2, a3, aH0, aH1, a11, anx, z0b]); clear hb F; (try omega))))
    refine zb6 ⟨i, k, out, ?_⟩
    (simp (disch := omega) only [go_sem, Nat.reduceBEq, Nat.reduceLeDiff, a2, a3, a4, a5, a9, aH0, aH1, aH2, aH3, aH4, aH5, a10, a11, anx, true_and])
    exact ⟨ap0, by omega, ap2, ap3, ap4, hHd⟩
  have hol := congrArg List.length dp3
  rw [List.length_append] at hol
  have htl : (x.kids.drop i).tail = x.kids.drop (i + 1) := by rw [List.tail_drop]
  by_cases hkb : k < u.kids.length
  ·have hdr := hfk k hkb
   have hst : sB u.kids[k].id = true := by
    rcases dp5 with h | ⟨y, q, h1, h2⟩
    ·rw [hdr] at h; cases h
    ·rw [hdr] at h1
     simp only [List.cons.injEq] at h1
     rw [<- h1.1] at h2
     exact h2
   have cfr := ih u.kids[k] (List.getElem_mem hkb)
   rw [hdr, mg_stay dp4 hst, htl] at dp3 hol
   rw [List.length_cons] at hol
   repeat' (first | refine nxt ?_ | ((first | refine zqh fun K hK => ?_ | refine zqe (by decide +kernel) fun K hK => ?_ | refine zqr fun K hK => ?_ | refine zqt (cfr) ?_); (simp (disch := omega) only [go_sem, Nat.reduceBEq, Nat.reduceEqDiff, ↓reduceIte, reduceCtorEq, Nat.reduceAdd, Nat.reduceMul, Nat.reduceLeDiff, Nat.reduceLT, d2, d3, d9, dH0, dH1, dH4, dH5, d10, d11, dnx, z0b])) | (refine zqd _ rfl ?_ ?_ <;> intro hc <;> (((try simp only [z03] at hc); (try omega)))) | (refine hK _ ?_; clear hK K))
   (refine Exists.intro _ (And.intro ?_ ⟨i + 1, k + 1, out ++ [z2l A B mv u.kids[k]], rfl, ?_⟩)); rotate_left; (simp (disch := omega) only [go_sem, Nat.reduceBEq, d2, d3, d4, d5, d9, dH0, dH1, dH2, dH3, dH4, dH5, d10, d11, true_and, Int.natCast_add, Int.natCast_one, List.flatMap_append, List.flatMap_cons, List.flatMap_nil, List.append_nil, List.length_append, List.length_cons, List.length_nil]); rotate_left
   ·omega
   ·exact ⟨by omega, by simp only [List.append_assoc]; exact dp3⟩
  ·have hfn : fr.drop k = [] := List.drop_eq_nil_of_le (by omega)
   have hfn2 : fr.drop (k + 1) = [] := List.drop_eq_nil_of_le (by omega)
   rw [hfn, mg_end dp4, htl, <- hfn2] at dp3
   repeat' (first | refine nxt ?_ | ((first | refine zqh fun K hK => ?_ | refine zqr fun K hK => ?_); (simp (disch := omega) only [go_sem, Nat.reduceBEq, ↓reduceIte, reduceCtorEq, Nat.reduceAdd, d3, dH1, d10, d11, dnx, z0b])) | (refine zqd _ rfl ?_ ?_ <;> intro hc <;> (((try simp only [z03] at hc); (try omega)))) | (refine hK _ ?_; clear hK K))
   (refine Exists.intro _ (And.intro ?_ ⟨i + 1, k + 1, out, rfl, ?_⟩)); rotate_left; (simp (disch := omega) only [go_sem, Nat.reduceBEq, d2, d3, d4, d5, d9, dH0, dH1, dH2, dH3, dH4, dH5, d10, d11, true_and, Int.natCast_add, Int.natCast_one]); rotate_left
   ·omega
   ·exact ⟨by omega, dp3⟩
end
section
open Abs Facts Tr
namespace Tr
structure Stp where
 kind : Int
 label : ByteArray
instance : DecidableEq Stp := fun a b => decidable_of_iff (a.kind = b.kind /\ a.label = b.label) ⟨fun ⟨h1, h2⟩ => by cases a; cases b; simp_all, fun h => by subst h; exact ⟨rfl, rfl⟩⟩
inductive It where
 | mk (kind : Int) (at_ to : List Stp) (wh nth : Int) (unit : T) (old new : List ByteArray) (label for_ : ByteArray) (sk sd : Int) (se : ByteArray) (act item day : Int) (event : ByteArray) (by_ : List It)
namespace It
def kind : It -> Int | .mk k _ _ _ _ _ _ _ _ _ _ _ _ _ _ _ _ _ => k
def at_ : It -> List Stp | .mk _ a _ _ _ _ _ _ _ _ _ _ _ _ _ _ _ _ => a
def to : It -> List Stp | .mk _ _ a _ _ _ _ _ _ _ _ _ _ _ _ _ _ _ => a
def wh : It -> Int | .mk _ _ _ a _ _ _ _ _ _ _ _ _ _ _ _ _ _ => a
def nth : It -> Int | .mk _ _ _ _ a _ _ _ _ _ _ _ _ _ _ _ _ _ => a
def unit : It -> T | .mk _ _ _ _ _ a _ _ _ _ _ _ _ _ _ _ _ _ => a
def old : It -> List ByteArray | .mk _ _ _ _ _ _ a _ _ _ _ _ _ _ _ _ _ _ => a
def new : It -> List ByteArray | .mk _ _ _ _ _ _ _ a _ _ _ _ _ _ _ _ _ _ => a
def label : It -> ByteArray | .mk _ _ _ _ _ _ _ _ a _ _ _ _ _ _ _ _ _ => a
def for_ : It -> ByteArray | .mk _ _ _ _ _ _ _ _ _ a _ _ _ _ _ _ _ _ => a
def sk : It -> Int | .mk _ _ _ _ _ _ _ _ _ _ a _ _ _ _ _ _ _ => a
def sd : It -> Int | .mk _ _ _ _ _ _ _ _ _ _ _ a _ _ _ _ _ _ => a
def se : It -> ByteArray | .mk _ _ _ _ _ _ _ _ _ _ _ _ a _ _ _ _ _ => a
def act : It -> Int | .mk _ _ _ _ _ _ _ _ _ _ _ _ _ a _ _ _ _ => a
def item : It -> Int | .mk _ _ _ _ _ _ _ _ _ _ _ _ _ _ a _ _ _ => a
def day : It -> Int | .mk _ _ _ _ _ _ _ _ _ _ _ _ _ _ _ a _ _ => a
def event : It -> ByteArray | .mk _ _ _ _ _ _ _ _ _ _ _ _ _ _ _ _ a _ => a
def by_ : It -> List It | .mk _ _ _ _ _ _ _ _ _ _ _ _ _ _ _ _ _ a => a
end It
mutual
theorem ind1I {p : It -> Prop} (h : ∀ t, (∀ k ∈ t.by_, p k) -> p t) : ∀ t, p t
 | .mk a0 a1 a2 a3 a4 a5 a6 a7 a8 a9 a10 a11 a12 a13 a14 a15 a16 ks => h (.mk a0 a1 a2 a3 a4 a5 a6 a7 a8 a9 a10 a11 a12 a13 a14 a15 a16 ks) (ind2I h ks)
theorem ind2I {p : It -> Prop} (h : ∀ t, (∀ k ∈ t.by_, p k) -> p t) : ∀ (ks : List It), ∀ k ∈ ks, p k
 | [], k, O => by cases O
 | t :: ts, k, O => by
  rcases List.mem_cons.1 O with e | O
  ·rw [e]; exact ind1I h t
  ·exact ind2I h ts k O
end
mutual
def recI {β : Type} (f : It -> List β -> β) : It -> β
 | .mk a0 a1 a2 a3 a4 a5 a6 a7 a8 a9 a10 a11 a12 a13 a14 a15 a16 ks => f (.mk a0 a1 a2 a3 a4 a5 a6 a7 a8 a9 a10 a11 a12 a13 a14 a15 a16 ks) (zyd f ks)
def zyd {β : Type} (f : It -> List β -> β) : List It -> List β
 | [] => []
 | t :: ts => recI f t :: zyd f ts
end
theorem zog {β : Type} (f : It -> List β -> β) : ∀ ks, zyd f ks = ks.map (recI f)
 | [] => rfl
 | t :: ts => by simp [zyd, zog f ts]
theorem recI_eq {β : Type} (f : It -> List β -> β) (t : It) : recI f t = f t (t.by_.map (recI f)) := by
 cases t
 rw [recI, zog]; rfl
end Tr
namespace Abs
open Tr
def cellsSt (s : Stp) : List D := [.int .i64 s.kind, .str s.label]
def encSt (s : Stp) : D := .agg (cellsSt s)
def z89 (l : List Stp) : D := .rsl false 2 (l.map encSt)
@[go_sem] theorem encSt_agg (s : Stp) : encSt s = .agg [.int .i64 s.kind, .str s.label] := rfl
theorem zmd (l : List Stp) : pureD (z89 l) = true := by simp only [z89, pureD]; exact z0d (fun _ => rfl) l
@[go_sem] theorem pureL_encSt (l : List Stp) : pureD.pureL (l.map encSt) = true := z0d (fun _ => rfl) l
def zoh (x : It) (ks : List (List D)) : List D := .int .i64 x.kind :: z89 x.at_ :: z89 x.to :: .int .i64 x.wh :: .int .i64 x.nth :: (z06 x.unit ++ [z1e x.old, z1e x.new, .str x.label, .str x.for_, .int .i64 x.sk, .int .i64 x.sd, .str x.se, .int .i64 x.act, .int .i64 x.item, .int .i64 x.day, .str x.event, .rsl false 25 (ks.map .agg)])
def z1g (x : It) : List D := recI zoh x
def encIt (x : It) : D := .agg (z1g x)
def zgz (l : List It) : D := .rsl false 25 (l.map encIt)
theorem zme (x : It) : z1g x = .int .i64 x.kind :: z89 x.at_ :: z89 x.to :: .int .i64 x.wh :: .int .i64 x.nth :: (z06 x.unit ++ [z1e x.old, z1e x.new, .str x.label, .str x.for_, .int .i64 x.sk, .int .i64 x.sd, .str x.se, .int .i64 x.act, .int .i64 x.item, .int .i64 x.day, .str x.event, zgz x.by_]) := by
 unfold z1g
 rw [recI_eq, zoh, List.map_map]; rfl
theorem z11 (x : It) : z1g x = [.int .i64 x.kind, z89 x.at_, z89 x.to, .int .i64 x.wh, .int .i64 x.nth, .int .i64 x.unit.id.act, .int .i64 x.unit.id.item, .int .i64 x.unit.id.n, .int .i64 x.unit.kind, .str x.unit.label, z1y x.unit.head, z1y x.unit.words, z0b x.unit.kids,
  z1e x.old, z1e x.new, .str x.label, .str x.for_, .int .i64 x.sk, .int .i64 x.sd, .str x.se, .int .i64 x.act, .int .i64 x.item, .int .i64 x.day, .str x.event, zgz x.by_] := by
 rw [zme, z0n]; rfl
@[go_sem] theorem encIt_agg (x : It) : encIt x = .agg (z1g x) := rfl
@[go_sem] theorem z9q (x : It) : (z1g x).length = 25 := by rw [z11]; rfl
@[go_sem] theorem zk3 (x : It) : (z1g x)[0]? = some (.int .i64 x.kind) := by rw [z11]; rfl
@[go_sem] theorem zq0 (x : It) : (z1g x)[1]? = some (z89 x.at_) := by rw [z11]; rfl
@[go_sem] theorem zq1 (x : It) : (z1g x)[2]? = some (z89 x.to) := by rw [z11]; rfl
@[go_sem] theorem zq2 (x : It) : (z1g x)[3]? = some (.int .i64 x.wh) := by rw [z11]; rfl
@[go_sem] theorem zmf (x : It) : (z1g x)[4]? = some (.int .i64 x.nth) := by rw [z11]; rfl
@[go_sem] theorem zmg (x : It) : (z1g x)[13]? = some (z1e x.old) := by rw [z11]; rfl
@[go_sem] theorem zmh (x : It) : (z1g x)[14]? = some (z1e x.new) := by rw [z11]; rfl
@[go_sem] theorem zif (x : It) : (z1g x)[15]? = some (.str x.label) := by rw [z11]; rfl
@[go_sem] theorem zmi (x : It) : (z1g x)[16]? = some (.str x.for_) := by rw [z11]; rfl
@[go_sem] theorem zq3 (x : It) : (z1g x)[17]? = some (.int .i64 x.sk) := by rw [z11]; rfl
@[go_sem] theorem zq4 (x : It) : (z1g x)[18]? = some (.int .i64 x.sd) := by rw [z11]; rfl
@[go_sem] theorem zq5 (x : It) : (z1g x)[19]? = some (.str x.se) := by rw [z11]; rfl
@[go_sem] theorem zmj (x : It) : (z1g x)[20]? = some (.int .i64 x.act) := by rw [z11]; rfl
@[go_sem] theorem zk4 (x : It) : (z1g x)[21]? = some (.int .i64 x.item) := by rw [z11]; rfl
@[go_sem] theorem zmk (x : It) : (z1g x)[22]? = some (.int .i64 x.day) := by rw [z11]; rfl
@[go_sem] theorem zig (x : It) : (z1g x)[23]? = some (.str x.event) := by rw [z11]; rfl
@[go_sem] theorem zq6 (x : It) : (z1g x)[24]? = some (zgz x.by_) := by rw [z11]; rfl
@[go_sem] theorem zk5 (x : It) : List.take 8 (List.drop 5 (z1g x)) = z06 x.unit := by rw [z11, z0n]; rfl
@[go_sem] theorem zye (x : It) : List.take 3 (List.drop 17 (z1g x)) = [.int .i64 x.sk, .int .i64 x.sd, .str x.se] := by rw [z11]; rfl
@[go_sem] theorem zk6 (x : It) : List.take 25 (z1g x) = z1g x := List.take_of_length_le (by rw [z9q]; decide)
theorem zcu : ∀ x, pureD.pureL (z1g x) = true := by
 refine ind1I fun x ih => ?_
 rw [z11]
 have O : pureD (zgz x.by_) = true := by
  simp only [zgz, pureD]
  generalize x.by_ = l at ih ⊢
  induction l with
  | nil => rfl
  | cons t l ih2 =>
   simp only [List.map_cons, pureD.pureL, Bool.and_eq_true]
   exact ⟨by simpa only [encIt, pureD] using ih t (by simp), ih2 fun k O => ih k (List.mem_cons_of_mem _ O)⟩
 simp only [pureD.pureL, pureD, zmd, z1v, z4q, z1t, O, Bool.and_self]
attribute [go_sem] zcu
end Abs
namespace Tr
structure EIt where
 act : Int
 item : Int
 day : Int
 it : It
end Tr
namespace Abs
def z0r (d : EIt) : List D := .int .i64 d.act :: .int .i64 d.item :: .int .i64 d.day :: z1g d.it
def encEi (d : EIt) : D := .agg (z0r d)
@[go_sem] theorem encEi_agg (d : EIt) : encEi d = .agg (z0r d) := rfl
@[go_sem] theorem zg9 (d : EIt) : (z0r d).length = 28 := by unfold z0r; simp only [List.length_cons, z9q]
@[go_sem] theorem cellsEi_act (d : EIt) : (z0r d)[0]? = some (.int .i64 d.act) := rfl
@[go_sem] theorem cellsEi_item (d : EIt) : (z0r d)[1]? = some (.int .i64 d.item) := rfl
@[go_sem] theorem cellsEi_it (d : EIt) : List.take 25 (List.drop 3 (z0r d)) = z1g d.it := by
 show List.take 25 (z1g d.it) = _
 rw [zk6]
@[go_sem] theorem cellsEi_take (d : EIt) : List.take 28 (z0r d) = z0r d := List.take_of_length_le (by rw [zg9]; decide)
theorem zk7 (d : EIt) : pureD.pureL (z0r d) = true := by unfold z0r; simp only [pureD.pureL, pureD, zcu, Bool.and_self]
attribute [go_sem] zk7
@[go_sem] theorem zyf (d : EIt) : (z0r d)[3]? = some (.int .i64 d.it.kind) := by unfold z0r; simp only [List.getElem?_cons_succ, zk3]
@[go_sem] theorem cellsEi_at' (d : EIt) : (z0r d)[4]? = some (z89 d.it.at_) := by unfold z0r; simp only [List.getElem?_cons_succ, zq0]
@[go_sem] theorem cellsEi_to' (d : EIt) : (z0r d)[5]? = some (z89 d.it.to) := by unfold z0r; simp only [List.getElem?_cons_succ, zq1]
@[go_sem] theorem cellsEi_wh' (d : EIt) : (z0r d)[6]? = some (.int .i64 d.it.wh) := by unfold z0r; simp only [List.getElem?_cons_succ, zq2]
@[go_sem] theorem cellsEi_nth' (d : EIt) : (z0r d)[7]? = some (.int .i64 d.it.nth) := by unfold z0r; simp only [List.getElem?_cons_succ, zmf]
@[go_sem] theorem cellsEi_old' (d : EIt) : (z0r d)[16]? = some (z1e d.it.old) := by unfold z0r; simp only [List.getElem?_cons_succ, zmg]
@[go_sem] theorem cellsEi_new' (d : EIt) : (z0r d)[17]? = some (z1e d.it.new) := by unfold z0r; simp only [List.getElem?_cons_succ, zmh]
@[go_sem] theorem zwt (d : EIt) : (z0r d)[18]? = some (.str d.it.label) := by unfold z0r; simp only [List.getElem?_cons_succ, zif]
@[go_sem] theorem cellsEi_for' (d : EIt) : (z0r d)[19]? = some (.str d.it.for_) := by unfold z0r; simp only [List.getElem?_cons_succ, zmi]
@[go_sem] theorem cellsEi_sk' (d : EIt) : (z0r d)[20]? = some (.int .i64 d.it.sk) := by unfold z0r; simp only [List.getElem?_cons_succ, zq3]
@[go_sem] theorem cellsEi_sd' (d : EIt) : (z0r d)[21]? = some (.int .i64 d.it.sd) := by unfold z0r; simp only [List.getElem?_cons_succ, zq4]
@[go_sem] theorem cellsEi_se' (d : EIt) : (z0r d)[22]? = some (.str d.it.se) := by unfold z0r; simp only [List.getElem?_cons_succ, zq5]
@[go_sem] theorem cellsEi_act' (d : EIt) : (z0r d)[23]? = some (.int .i64 d.it.act) := by unfold z0r; simp only [List.getElem?_cons_succ, zmj]
@[go_sem] theorem zyg (d : EIt) : (z0r d)[24]? = some (.int .i64 d.it.item) := by unfold z0r; simp only [List.getElem?_cons_succ, zk4]
@[go_sem] theorem cellsEi_day' (d : EIt) : (z0r d)[25]? = some (.int .i64 d.it.day) := by unfold z0r; simp only [List.getElem?_cons_succ, zmk]
@[go_sem] theorem zwu (d : EIt) : (z0r d)[26]? = some (.str d.it.event) := by unfold z0r; simp only [List.getElem?_cons_succ, zig]
@[go_sem] theorem cellsEi_by' (d : EIt) : (z0r d)[27]? = some (zgz d.it.by_) := by unfold z0r; simp only [List.getElem?_cons_succ, zq6]
@[go_sem] theorem cellsEi_unit (d : EIt) : List.take 8 (List.drop 8 (z0r d)) = z06 d.it.unit := by
 show List.take 8 (List.drop 5 (z1g d.it)) = _
 rw [zk5]
end Abs
end
section
open Abs Facts Tr
namespace Tr
end Tr
end
section
open Abs Facts Tr
attribute [local irreducible] awp
namespace Tr
theorem z4c {α : Type} {f : α -> Bool} {l : List α} {i : Nat} (hi : i < l.length) (h : (l.take i).any f = false) (hf : f l[i] = false) : (l.take (i + 1)).any f = false := by
 rw [List.take_succ_eq_append_getElem hi, List.any_append, h]; simp [hf]
end Tr

namespace Tr
def takeE (u : T) (id : Idv) : Int := if zwn u = false then 1 else if (findR id u).2 = false then 4 else if u.id = id then 9 else 0
end Tr
namespace Abs
end Abs
end
section
open Abs Facts Tr
namespace Tr
theorem zwm {C : Ctx} {q : T} {id : Idv} (hq : q.id = id) (h : id ∉ zg5 C) : (zc5 id (z7n C q)).length = lenC C := by
 rw [zo2 (hq ▸ z42 q) C h, zsx hq, List.nil_append, zjn]
end Tr
end
section
open Abs Facts Tr
attribute [local irreducible] awp
namespace Tr
end Tr
namespace Tr
end Tr
namespace Tr
end Tr
namespace Tr
end Tr
namespace Tr
end Tr
namespace Tr
end Tr
namespace Tr
theorem take_zero {u x : T} {id : Idv} (h1 : zwn u = true) (h2 : findR id u = (x, true)) (h3 : ¬ u.id = id) : takeE u id = 0 := by
 unfold takeE; rw [if_neg (by rw [h1]; simp), if_neg (by rw [h2]; simp), if_neg h3]
end Tr
end
section
open Abs Facts Tr
namespace Tr
theorem zst : ∀ u x : T, x ∈ nodesT u -> ∀ y ∈ nodesT x, y ∈ nodesT u := by
 refine fun u => z50 (p := fun u => ∀ x : T, x ∈ nodesT u -> ∀ y ∈ nodesT x, y ∈ nodesT u) (fun u ih x hx y hy => ?_) u
 rw [z1c, List.mem_cons] at hx
 rcases hx with rfl | hx
 ·exact hy
 ·obtain ⟨k, O, hxk⟩ := List.mem_flatMap.1 hx
  exact z0i O (ih k O x hxk y hy)
theorem zsu (C : Ctx) {x y : T} (h : y ∈ nodesT x) : y ∈ nodesT (z7n C x) := by
 induction C with
 | hole => exact h
 | node t l c r ih => exact z0i (t := z7n (.node t l c r) x) (k := z7n c x) (by show _ ∈ l ++ _ :: r; simp) ih
end Tr
namespace Tr
def bookS (s : Stp) : Bool := decide (s.kind = 0) && decide (s.label = z69)
def zpl (s : Stp) : Bool := decide (1 <= s.kind /\ s.kind <= 7) && z4i s.label
def okS (i : Nat) (s : Stp) : Bool := (decide (i = 0) && bookS s) || zpl s
def atB (s : Stp) (u : T) : Bool := decide (u.kind = s.kind) && decide (u.label = s.label)
def nextT (now : List T) (s : Stp) : List T := now.flatMap fun x => x.kids.filter (atB s)
theorem zxi {now : List T} {s : Stp} {u : T} (h : ∀ x ∈ now, x ∈ nodesT u) : ∀ x ∈ nextT now s, x ∈ nodesT u := fun x hx => by
 unfold nextT at hx
 obtain ⟨y, hy, hx⟩ := List.mem_flatMap.1 hx
 have O := (List.mem_filter.1 hx).1
 exact zst u y (h y hy) x (z0i O (z09 x))
theorem zdt {u : T} : ∀ (r : List Stp) (now : List T), (∀ x ∈ now, x ∈ nodesT u) -> ∀ x ∈ r.foldl nextT now, x ∈ nodesT u
 | [], _, h => h
 | _ :: r, _, h => zdt r _ (zxi h)
end Tr
namespace Tr
end Tr
namespace Tr
def z38 (id : Idv) (t : T) : T × Int × Int := zei (fun t l => if z3u (fun k => decide (k.id = id)) t.kids < t.kids.length then (t, 0, (z3u (fun k => decide (k.id = id)) t.kids : Int)) else match l.find? (fun r => decide (0 <= r.2.2)) with
 | some r => (r.1, r.2.1 + 1, r.2.2)
 | none => (T.zero, 0, -1)) t
theorem z82 (id : Idv) (t : T) : z38 id t = if z3u (fun k => decide (k.id = id)) t.kids < t.kids.length then (t, 0, (z3u (fun k => decide (k.id = id)) t.kids : Int)) else match (t.kids.map (z38 id)).find? (fun r => decide (0 <= r.2.2)) with
  | some r => (r.1, r.2.1 + 1, r.2.2)
  | none => (T.zero, 0, -1) := by unfold z38; rw [z3t]
theorem zbg {α : Type} {f : α -> Bool} {l : List α} (h : ∀ x ∈ l, f x = false) : z3u f l = l.length := z3n (Nat.le_refl _) (fun j hj => h _ (List.getElem_mem _)) (fun h => absurd h (Nat.lt_irrefl _))
theorem zvl {α : Type} {f : α -> Bool} {l r : List α} {x : α} (h : ∀ y ∈ l, f y = false) (hx : f x = true) : z3u f (l ++ x :: r) = l.length :=
 z3n (by simp) (fun j hj => by rw [List.getElem_append_left hj]; exact h _ (List.getElem_mem _)) (fun hl => by simpa using hx)
theorem zcg {l : List T} {id : Idv} (h : id ∉ l.flatMap idsT) : ∀ k ∈ l, id ∉ idsT k := fun k O hm => h (List.mem_flatMap.2 ⟨k, O, hm⟩)
theorem zp0 {k : T} {id : Idv} (h : id ∉ idsT k) : ¬ k.id = id := fun e => h (e ▸ z42 k)
theorem zl8 {id : Idv} : ∀ t : T, id ∉ t.kids.flatMap idsT -> z38 id t = (T.zero, 0, -1) := by
 refine z50 fun t ih h => ?_
 rw [z82, zbg (fun k O => decide_eq_false (zp0 (zcg h k O))), if_neg (Nat.lt_irrefl _)]
 have : (t.kids.map (z38 id)).find? (fun r => decide (0 <= r.2.2)) = none := by
  rw [List.find?_eq_none]
  intro r hr
  obtain ⟨k, O, rfl⟩ := List.mem_map.1 hr
  have hk2 := zcg h k O
  rw [ih k O (fun hm => hk2 (by rw [z2h]; exact List.mem_cons_of_mem _ hm))]
  decide
 rw [this]
theorem zhk {id : Idv} {q x : T} {l r : List T} (hx : x.id = id) (hq : ¬ q.id = id) (hl : id ∉ l.flatMap idsT) : ∀ C, id ∉ zg5 C -> id ∉ zhs C -> z38 id (z7n C (q.setKids (l ++ x :: r))) = (q.setKids (l ++ x :: r), (lenC C : Int), (l.length : Int))
 | .hole, _, _ => by
  have hf : z3u (fun k => decide (k.id = id)) (l ++ x :: r) = l.length := zvl (fun k O => decide_eq_false (zp0 (zcg hl k O))) (decide_eq_true hx)
  rw [z7n, z82]
  show (if z3u _ (l ++ x :: r) < (l ++ x :: r).length then _ else _) = _
  rw [hf, if_pos (by simp)]
  show (_, _, ((z3u _ (l ++ x :: r) : Nat) : Int)) = _
  rw [hf]; rfl
 | .node t l' c r', h1, h2 => by
  obtain ⟨n1, n2, n3⟩ := z6d h1
  obtain ⟨m1, m2⟩ := zsz h2
  have ih := zhk (r := r) hx hq hl c n3 m1
  have hroot : ¬ (z7n c (q.setKids (l ++ x :: r))).id = id := by
   cases c with
   | hole => exact hq
   | node t2 l2 c2 r2 => exact (z6d n3).1
  rw [z7n, z82]
  have hno : ∀ k ∈ l' ++ z7n c (q.setKids (l ++ x :: r)) :: r', decide (k.id = id) = false := fun k O => by
   rw [List.mem_append, List.mem_cons] at O
   rcases O with O | rfl | O
   ·exact decide_eq_false (zp0 (zcg n2 k O))
   ·exact decide_eq_false hroot
   ·exact decide_eq_false (zp0 (zcg m2 k O))
  show (if z3u _ (l' ++ z7n c (q.setKids (l ++ x :: r)) :: r') < (l' ++ z7n c (q.setKids (l ++ x :: r)) :: r').length then _ else match ((l' ++ z7n c (q.setKids (l ++ x :: r)) :: r').map (z38 id)).find? _ with | some r => _ | none => _) = _
  rw [zbg hno, if_neg (Nat.lt_irrefl _), List.map_append, List.map_cons, List.find?_append]
  have hz : (l'.map (z38 id)).find? (fun r => decide (0 <= r.2.2)) = none := by
   rw [List.find?_eq_none]
   intro r hr
   obtain ⟨k, O, rfl⟩ := List.mem_map.1 hr
   have hk2 := zcg n2 k O
   rw [zl8 k (fun hm => hk2 (by rw [z2h]; exact List.mem_cons_of_mem _ hm))]
   decide
  rw [hz, Option.none_or, List.find?_cons, ih]
  simp only [Int.natCast_nonneg, decide_true]
  show (_, ((lenC c : Nat) : Int) + 1, _) = (_, ((lenC c + 1 : Nat) : Int), _)
  rw [Int.natCast_add]; rfl
theorem ziz {id : Idv} {u : T} (hn : (idsT u).Nodup) (h0 : ¬ u.id = id) (hm : id ∈ idsT u) : z38 id u = ((findR (z71 id u).1 u).1, ((zc5 (z71 id u).1 u).length : Int), (z71 id u).2.1) := by
 obtain ⟨C, q, l, x, r, e, hx, hq, n1, n2, hf, hp⟩ := focus2 h0 hm
 rw [hp]
 have hxm : id ∈ idsT (q.setKids (l ++ x :: r)) := by rw [zfp]; exact List.mem_cons_of_mem _ (zsy.2 (.inr (.inl (hx ▸ z42 x))))
 subst e
 obtain ⟨k1, k2⟩ := zcl hn hxm
 have hqs : q.id ∈ idsT (q.setKids (l ++ x :: r)) := by rw [zfp]; exact List.mem_cons_self
 obtain ⟨m1, m2⟩ := zcl hn hqs
 have e1 : findR q.id (q.setKids (l ++ x :: r)) = (q.setKids (l ++ x :: r), true) := z5p rfl
 have e2 : (zc5 q.id (z7n C (q.setKids (l ++ x :: r)))).length = lenC C := zwm rfl m1
 rw [zhk hx hq n2 C k1 k2, zee hqs C m1, e1]
 show _ = (_, ((zc5 q.id (z7n C (q.setKids (l ++ x :: r)))).length : Int), _)
 rw [e2]
end Tr
namespace Tr
theorem above {u : T} {id : Idv} (hn : (idsT u).Nodup) (h0 : ¬ u.id = id) (hm : id ∈ idsT u) : ∃ (q : T) (l : List T) (x : T) (r : List T), z71 id u = (q.id, (l.length : Int), true) /\ findR id u = (x, true) /\ x.id = id /\
  findR q.id u = (q.setKids (l ++ x :: r), true) /\ q.setKids (l ++ x :: r) ∈ nodesT u /\ id ∉ l.flatMap idsT /\ id ∉ r.flatMap idsT /\ q.id ∈ idsT u /\ (∀ i ∈ idsT x, i ≠ q.id /\ i ∉ l.flatMap idsT /\ i ∉ r.flatMap idsT) := by
 obtain ⟨C, q, l, x, r, e, hx, hq, n1, n2, hf, hp⟩ := focus2 h0 hm
 refine ⟨q, l, x, r, hp, hf, hx, ?_⟩
 subst e
 have hqs : q.id ∈ idsT (q.setKids (l ++ x :: r)) := by rw [zfp]; exact List.mem_cons_self
 obtain ⟨m1, m2⟩ := zcl hn hqs
 have ns := (zw9 (zhl hn)).1
 refine ⟨by rw [zee hqs C m1]; exact z5p rfl, zsu C (z09 _), n2, (ns id (hx ▸ z42 x)).2.2, zdv C hqs, ns⟩
end Tr
namespace Tr
end Tr
end
section
open Abs Facts Tr
attribute [local irreducible] awp
set_option maxRecDepth 100000
namespace Tr
end Tr
theorem zll : ∀ t : T, szB t = true -> cntT t <= 1000000000 -> PC prog 40 [z1f t] (z0b (nodesT t)) := by
 refine z50 fun t ih hs hc => ?_
 obtain ⟨h0, h1, g1, h2, g2, h3, h4⟩ := (z2o t).1 hs
 have hce := zaf t
 refine z2f 2 (by simp only [pureD.pureL, z0a, Bool.and_self]) (z4q _) (z23 [6] func40 rfl (by decide +kernel) rfl ?_)
 show awp _ _ (Code.seq _ _) _ _
 repeat' (first | refine nxt ?_ | ((refine zqh fun K hK => ?_); (simp (disch := omega) only [go_sem, Nat.reduceBEq, ↓reduceIte, reduceCtorEq, Nat.reduceAdd, Nat.reduceMul, Nat.reduceLeDiff])) | (refine hK _ ?_; clear hK K))
 (refine z3i (fun U st => ∃ (i : _), U = t.kids.length - i /\ st.t 1 = .ptr 0 0 /\ st.t 3 = .osl 1 (1 + ((t.kids.take i).flatMap nodesT).length) /\ st.t 4 = .int .i64 i /\ st.H 0 = some (.box 27 (z06 t)) /\ st.H 1 = some (.row 27 (1 + ((t.kids.take i).flatMap nodesT).length) ((t :: (t.kids.take i).flatMap nodesT).flatMap z06)) /\ (i <= t.kids.length) /\ (2 <= st.nx)) ?_ ?_); rotate_left; (rintro U st ⟨i, rfl, q1, q3, q4, qH0, qH1, qp0, qp1⟩); rotate_left
 ·(refine ⟨_, 0, rfl, ?_⟩); (simp (disch := omega) only [go_sem, Nat.reduceBEq, Nat.reduceLeDiff, true_and, and_true, and_self, Int.natCast_zero, List.flatMap_nil, List.append_nil])
  try simp
 have hin := fun (h : i < t.kids.length) => ih t.kids[i] (List.getElem_mem h) (h4 _ (List.getElem_mem h)) (by have := zjb (List.getElem_mem h); omega)
 have hb := z5n t.kids (i + 1)
 by_cases hi : i < t.kids.length
 ·have hsu := z5o t.kids i hi
  have hil : (nodesT t.kids[i]).length = cntT t.kids[i] := rfl
  have htk : (t.kids.take (i + 1)).flatMap nodesT = (t.kids.take i).flatMap nodesT ++ nodesT t.kids[i] := by
   rw [List.take_succ_eq_append_getElem hi, List.flatMap_append]; simp
  repeat' (first | refine nxt ?_ | ((first | refine zqh fun K hK => ?_ | refine zqr fun K hK => ?_ | refine zqs (hin hi) ?_); (simp (disch := omega) only [go_sem, Nat.reduceBEq, ↓reduceIte, reduceCtorEq, Nat.reduceAdd, q1, q3, q4, qH0, qH1, z0b, zbm])) | (refine zqd _ rfl ?_ ?_ <;> intro hc <;> (((try simp only [z03] at hc); (try omega)))) | (refine hK _ ?_; clear hK K))
  (refine Exists.intro _ (And.intro ?_ ⟨i + 1, rfl, ?_⟩)); rotate_left; (simp (disch := omega) only [go_sem, Nat.reduceBEq, q1, q3, q4, qH0, qH1, true_and, Int.natCast_add, Int.natCast_one, List.flatMap_append, List.flatMap_cons, htk, hil, Nat.add_assoc, List.append_assoc]); rotate_left
  ·omega
  ·omega
 ·repeat' (first | refine nxt ?_ | ((refine zqh fun K hK => ?_); (simp (disch := omega) only [go_sem, Nat.reduceBEq, ↓reduceIte, reduceCtorEq, Nat.reduceAdd, q1, q3, q4, qH0, z0b])) | (refine zqd _ rfl ?_ ?_ <;> intro hc <;> (((try simp only [z03] at hc); (try omega)))) | refine zqz ?_ | refine zqu (by simp only [go_sem]; rfl) rfl ?_ | (refine hK _ ?_; clear hK K))
  have hi2 : i = t.kids.length := by omega
  subst hi2
  rw [List.take_length] at qH1
  rw [List.take_length]
  rw [<- z1c] at qH1
  refine z47 (ziy (f := z06) (l := nodesT t) 0 ?_ ?_ zio zud z5d z27)
  ·rw [z1c, List.length_cons]; omega
  ·(simp (disch := omega) only [go_sem, qH1])
namespace Tr
def zbf (id : Idv) (t : T) : Int := ((z20 id t).length : Int) - 1
theorem zvi {id : Idv} {t : T} (h : t.id = id) : zbf id t = 0 := by unfold zbf; rw [z2u h]; rfl
theorem zvj {id : Idv} {t : T} (h : z20 id t = []) : zbf id t = -1 := by unfold zbf; rw [h]; rfl
theorem zzi {id : Idv} {t k : T} (h : z20 id t = t :: z20 id k) : zbf id t = zbf id k + 1 := by
 unfold zbf; rw [h, List.length_cons, Int.natCast_add]; omega
theorem znc {id : Idv} {t : T} : 0 <= zbf id t ↔ z20 id t ≠ [] := by
 unfold zbf
 cases z20 id t with
 | nil => simp
 | cons a l => simp only [List.length_cons, Int.natCast_add, ne_eq, reduceCtorEq, not_false_eq_true, iff_true]; omega
theorem zrs {id : Idv} {t : T} {i : Nat} (hi : i < t.kids.length) (h1 : ∀ j, (hj : j < i) -> (h : j < t.kids.length) -> ¬ t.kids[j].id = id) (h2 : t.kids[i].id = id) : z38 id t = (t, 0, (i : Int)) := by
 have hf : z3u (fun k => decide (k.id = id)) t.kids = i := z3n (by omega) (fun j hj => decide_eq_false (h1 j hj (by omega))) (fun _ => decide_eq_true h2)
 rw [z82, hf, if_pos hi]
theorem zzj {id : Idv} {t : T} {i : Nat} (hno : ∀ j, (h : j < t.kids.length) -> ¬ t.kids[j].id = id) (hi : i < t.kids.length) (h1 : ∀ j, (hj : j < i) -> (h : j < t.kids.length) -> ¬ 0 <= (z38 id t.kids[j]).2.2) (h2 : 0 <= (z38 id t.kids[i]).2.2) : z38 id t = ((z38 id t.kids[i]).1, (z38 id t.kids[i]).2.1 + 1, (z38 id t.kids[i]).2.2) := by
 have hf : z3u (fun k => decide (k.id = id)) t.kids = t.kids.length := zbg fun k O => by
  obtain ⟨j, hj, rfl⟩ := List.getElem_of_mem O
  exact decide_eq_false (hno j hj)
 have hs : (t.kids.map (z38 id)).find? (fun r => decide (0 <= r.2.2)) = some (z38 id t.kids[i]) := by
  rw [List.find?_eq_some_iff_getElem]
  refine ⟨decide_eq_true h2, i, by rw [List.length_map]; exact hi, by rw [List.getElem_map], fun j hj => ?_⟩
  rw [List.getElem_map]
  simp only [Bool.not_eq_true', decide_eq_false_iff_not]
  exact h1 j hj (by omega)
 rw [z82, hf, if_neg (Nat.lt_irrefl _), hs]
theorem zzk {id : Idv} {t : T} (hno : ∀ j, (h : j < t.kids.length) -> ¬ t.kids[j].id = id) (h1 : ∀ j, (h : j < t.kids.length) -> ¬ 0 <= (z38 id t.kids[j]).2.2) : z38 id t = (T.zero, 0, -1) := by
 have hf : z3u (fun k => decide (k.id = id)) t.kids = t.kids.length := zbg fun k O => by
  obtain ⟨j, hj, rfl⟩ := List.getElem_of_mem O
  exact decide_eq_false (hno j hj)
 have hs : (t.kids.map (z38 id)).find? (fun r => decide (0 <= r.2.2)) = none := by
  rw [List.find?_eq_none]
  intro r hr
  obtain ⟨k, O, rfl⟩ := List.mem_map.1 hr
  obtain ⟨j, hj, rfl⟩ := List.getElem_of_mem O
  simp only [decide_eq_true_eq]
  exact h1 j hj
 rw [z82, hf, if_neg (Nat.lt_irrefl _), hs]
theorem zzl (id : Idv) : ∀ t : T, 0 <= (z38 id t).2.1 /\ (z38 id t).2.1 <= depT t := by
 refine z50 fun t ih => ?_
 rw [z82]
 split
 ·exact ⟨Int.le_refl _, Int.natCast_nonneg _⟩
 ·split
  ·rename_i r hr
   obtain ⟨k, O, rfl⟩ := List.mem_map.1 (List.mem_of_find?_eq_some hr)
   have h1 := ih k O
   have h2 := z6p O
   simp only; omega
  ·exact ⟨Int.le_refl _, Int.natCast_nonneg _⟩
end Tr
theorem zoz (id : Idv) : ∀ t : T, szB t = true -> depT t <= 1000000000 -> PC prog 41 [z1f t, z48 id] (.tup [z1f (findR id t).1, .int .i64 (zbf id t)]) := by
 refine z50 fun t ih hs V => ?_
 obtain ⟨h0, h1, g1, h2, g2, h3, h4⟩ := (z2o t).1 hs
 refine z2f 3 (by simp only [pureD.pureL, z0a]; rfl) (by simp only [pureD, pureD.pureL, z0a, Bool.and_self]) (z23 [3000023, 3000025, 3000026, 3000027, 5000028] func41 rfl (by decide +kernel) rfl ?_)
 show awp _ _ (Code.seq _ _) _ _
 rw [show Tryz.f41.results.toList = [.cell 4 27, .tmp 5] from rfl]
 repeat' (first | refine nxt ?_ | ((refine zqh fun K hK => ?_); (simp (disch := omega) only [go_sem, Nat.reduceBEq, ↓reduceIte, reduceCtorEq, Nat.reduceAdd, Nat.reduceLeDiff])) | (refine zqd _ rfl ?_ ?_ <;> intro hc <;> (((try simp only [z03] at hc); (try omega)))) | refine zqu (by (simp (disch := omega) only [go_sem, Nat.reduceBEq, ↓reduceIte, Nat.reduceLeDiff]); rfl) rfl ?_ | (refine hK _ ?_; clear hK K))
 ·rw [z5p (by assumption), zvi (by assumption)]
  exact z18 (by simp only [pureD, pureD.pureL, z27, Bool.and_self]) (Le.refl _)
 ·have hne : ¬ t.id = id := by assumption
  (refine z3i (fun U st => ∃ (i : _), U = t.kids.length - i /\ st.t 2 = .ptr 0 0 /\ st.t 3 = .ptr 1 0 /\ st.t 4 = .ptr 2 0 /\ st.t 6 = .int .i64 i /\ st.H 0 = some (.box 27 (z06 t)) /\ st.H 1 = some (.box 23 (cellsId id)) /\ st.H 2 = some (.box 27 [.int .i64 0, .int .i64 0, .int .i64 0, .int .i64 0, .str ByteArray.empty, .nil, .nil, .nil]) /\ (i <= t.kids.length) /\ (3 <= st.nx) /\ (∀ j, (hj : j < i) -> (h : j < t.kids.length) -> z20 id t.kids[j] = [])) ?_ ?_); rotate_left; (rintro U st ⟨i, rfl, q2, q3, q4, q6, qH0, qH1, qH2, qp0, qp1, qp2⟩); rotate_left
  ·(refine ⟨_, 0, rfl, ?_⟩); (simp (disch := omega) only [go_sem, Nat.reduceBEq, Nat.reduceLeDiff, true_and, Int.natCast_zero, cellsId])
   (repeat' (omega))
  by_cases hi : i < t.kids.length
  ·have hdk := z6p (List.getElem_mem hi)
   have hin := ih t.kids[i] (List.getElem_mem hi) (h4 _ (List.getElem_mem hi)) (by omega)
   have hlen := z005 id t.kids[i]
   have hdi : zbf id t.kids[i] <= 1000000000 := by unfold zbf; omega
   repeat' (first | refine nxt ?_ | ((first | refine zqh fun K hK => ?_ | refine zqe (by decide +kernel) fun K hK => ?_ | refine zqr fun K hK => ?_ | refine zqt (hin) ?_); (simp (disch := omega) only [go_sem, Nat.reduceBEq, Nat.reduceEqDiff, ↓reduceIte, reduceCtorEq, Nat.reduceAdd, Nat.reduceLeDiff, q2, q3, q4, q6, qH0, qH1, qH2, z0b, cellsId])) | ((first | refine zqd _ rfl (fun hc => ?_) (fun hc => ?_) | refine zqm _ rfl (fun hc => ?_) (fun hc => ?_)) <;> (((try simp only [z03] at hc); (try omega)))) | refine zqu (by (simp (disch := omega) only [go_sem, Nat.reduceBEq, ↓reduceIte, Nat.reduceLeDiff, q4, qH2]); rfl) rfl ?_ | (refine hK _ ?_; clear hK K))
   ·have hf := znc.1 ‹0 <= zbf id t.kids[i]›
    rw [z73 (z4z hne hi qp2 hf) hf, zzi (z4z hne hi qp2 hf)]
    refine z18 (by simp only [pureD, pureD.pureL, z27, Bool.and_self]) ?_
    exact Le.refl _
   ·have hf : z20 id t.kids[i] = [] := Classical.byContradiction fun g => by have := znc.2 g; omega
    (refine Exists.intro _ (And.intro ?_ ⟨i + 1, rfl, ?_⟩)); rotate_left; (simp (disch := omega) only [go_sem, Nat.reduceBEq, Nat.reduceLeDiff, q2, q3, q4, q6, qH0, qH1, qH2, true_and, Int.natCast_add, Int.natCast_one, cellsId]); rotate_left
    ·omega
    ·refine ⟨by omega, by omega, fun j hj h => ?_⟩
     by_cases e : j = i
     ·subst e; exact hf
     ·exact qp2 j (by omega) h
  ·repeat' (first | refine nxt ?_ | ((refine zqh fun K hK => ?_); (simp (disch := omega) only [go_sem, Nat.reduceBEq, ↓reduceIte, reduceCtorEq, Nat.reduceAdd, Nat.reduceLeDiff, q2, q4, q6, qH0, qH2, z0b])) | (refine zqd _ rfl ?_ ?_ <;> intro hc <;> (((try simp only [z03] at hc); (try omega)))) | refine zqz ?_ | refine zqu (by (simp (disch := omega) only [go_sem, Nat.reduceBEq, ↓reduceIte, Nat.reduceAdd, Nat.reduceLeDiff, q4, qH2]); rfl) rfl ?_ | (refine hK _ ?_; clear hK K))
   rw [zak (zaj hne (by omega) qp2), zvj (zaj hne (by omega) qp2)]
   exact z18 (by simp only [pureD, pureD.pureL, Bool.and_self]) (Le.tup ⟨zie, Le.refl _, trivial⟩)
theorem za8 (id : Idv) : ∀ t : T, szB t = true -> depT t <= 1000000000 -> PC prog 54 [z1f t, z48 id] (.tup [z1f (z38 id t).1, .int .i64 (z38 id t).2.1, .int .i64 (z38 id t).2.2]) := by
 refine z50 fun t ih hs V => ?_
 obtain ⟨h0, h1, g1, h2, g2, h3, h4⟩ := (z2o t).1 hs
 refine z2f 3 (by simp only [pureD.pureL, z0a]; rfl) (by simp only [pureD, pureD.pureL, z0a, Bool.and_self]) (z23 [3000038, 3000040, 3000041, 3000042, 5000043] func54 rfl (by decide +kernel) rfl ?_)
 show awp _ _ (Code.seq _ _) _ _
 rw [show Tryz.f54.results.toList = [.cell 4 27, .tmp 5, .tmp 6] from rfl]
 repeat' (first | refine nxt ?_ | ((refine zqh fun K hK => ?_); (simp (disch := omega) only [go_sem, Nat.reduceBEq, Nat.reduceAdd])) | (refine hK _ ?_; clear hK K))
 (refine z3i (fun U st => ∃ (i : _), U = t.kids.length - i /\ st.t 2 = .ptr 0 0 /\ st.t 3 = .ptr 1 0 /\ st.t 4 = .ptr 2 0 /\ st.t 7 = .int .i64 i /\ st.H 0 = some (.box 27 (z06 t)) /\ st.H 1 = some (.box 23 (cellsId id)) /\ st.H 2 = some (.box 27 [.int .i64 0, .int .i64 0, .int .i64 0, .int .i64 0, .str ByteArray.empty, .nil, .nil, .nil]) /\ (i <= t.kids.length) /\ (3 <= st.nx) /\ (∀ j, (hj : j < i) -> (h : j < t.kids.length) -> ¬ t.kids[j].id = id)) ?_ ?_); rotate_left; (rintro U st ⟨i, rfl, q2, q3, q4, q7, qH0, qH1, qH2, qp0, qp1, qp2⟩); rotate_left
 ·(refine ⟨_, 0, rfl, ?_⟩); (simp (disch := omega) only [go_sem, Nat.reduceBEq, Nat.reduceLeDiff, true_and, Int.natCast_zero, cellsId])
  (repeat' (omega))
  all_goals intro j hj; omega
 by_cases hi : i < t.kids.length
 ·repeat' (first | refine nxt ?_ | ((first | refine zqh fun K hK => ?_ | refine zqe (by decide +kernel) fun K hK => ?_ | refine zqr fun K hK => ?_); (simp (disch := omega) only [go_sem, Nat.reduceBEq, Nat.reduceEqDiff, ↓reduceIte, reduceCtorEq, Nat.reduceAdd, Nat.reduceLeDiff, q2, q3, q4, q7, qH0, qH1, qH2, z0b, cellsId])) | ((first | refine zqd _ rfl (fun hc => ?_) (fun hc => ?_) | refine zqm _ rfl (fun hc => ?_) (fun hc => ?_)) <;> (((try simp only [z03] at hc); (try omega)))) | refine zqu (by (simp (disch := omega) only [go_sem, Nat.reduceBEq, ↓reduceIte, Nat.reduceLeDiff, q4, qH2]); rfl) rfl ?_ | (refine hK _ ?_; clear hK K))
  ·rw [zrs hi qp2 (by assumption)]
   exact z18 (by simp only [pureD, pureD.pureL, z27, Bool.and_self]) (Le.refl _)
  ·(refine Exists.intro _ (And.intro ?_ ⟨i + 1, rfl, ?_⟩)); rotate_left; (simp (disch := omega) only [go_sem, Nat.reduceBEq, q2, q3, q4, q7, qH0, qH1, qH2, true_and, Int.natCast_add, Int.natCast_one, cellsId]); rotate_left
   ·omega
   ·refine ⟨by omega, by omega, fun j hj h => ?_⟩
    by_cases e : j = i
    ·subst e; assumption
    ·exact qp2 j (by omega) h
 ·repeat' (first | refine nxt ?_ | ((refine zqh fun K hK => ?_); (simp (disch := omega) only [go_sem, Nat.reduceBEq, ↓reduceIte, reduceCtorEq, Nat.reduceAdd, q2, q7, qH0, z0b])) | (refine zqd _ rfl ?_ ?_ <;> intro hc <;> (((try simp only [z03] at hc); (try omega)))) | refine zqz ?_ | (refine hK _ ?_; clear hK K))
  have hno : ∀ j, (h : j < t.kids.length) -> ¬ t.kids[j].id = id := fun j h => qp2 j (by omega) h
  (refine z3i (fun U st => ∃ (k : _), U = t.kids.length - k /\ st.t 2 = .ptr 0 0 /\ st.t 3 = .ptr 1 0 /\ st.t 4 = .ptr 2 0 /\ st.t 8 = .int .i64 k /\ st.H 0 = some (.box 27 (z06 t)) /\ st.H 1 = some (.box 23 (cellsId id)) /\ st.H 2 = some (.box 27 [.int .i64 0, .int .i64 0, .int .i64 0, .int .i64 0, .str ByteArray.empty, .nil, .nil, .nil]) /\ (k <= t.kids.length) /\ (3 <= st.nx) /\ (∀ j, (hj : j < k) -> (h : j < t.kids.length) -> ¬ 0 <= (z38 id t.kids[j]).2.2)) ?_ ?_); rotate_left; (rintro U st ⟨k, rfl, r2, r3, r4, r8, rH0, rH1, rH2, rp0, rp1, rp2⟩); rotate_left
  ·(refine ⟨_, 0, rfl, ?_⟩); (simp (disch := omega) only [go_sem, Nat.reduceBEq, q2, q3, q4, qH0, qH1, qH2, true_and, Int.natCast_zero, cellsId])
   (repeat' (first | omega | refine And.intro ?_ ?_))
   all_goals first | omega | (intro j hj; omega)
  by_cases O : k < t.kids.length
  ·have hdk := z6p (List.getElem_mem O)
   have hin := ih t.kids[k] (List.getElem_mem O) (h4 _ (List.getElem_mem O)) (by omega)
   have hle := zzl id t.kids[k]
   repeat' (first | refine nxt ?_ | ((first | refine zqh fun K hK => ?_ | refine zqe (by decide +kernel) fun K hK => ?_ | refine zqr fun K hK => ?_ | refine zqt (hin) ?_); (simp (disch := omega) only [go_sem, Nat.reduceBEq, Nat.reduceEqDiff, ↓reduceIte, reduceCtorEq, Nat.reduceAdd, Nat.reduceLeDiff, r2, r3, r4, r8, rH0, rH1, rH2, z0b, cellsId])) | ((first | refine zqd _ rfl (fun hc => ?_) (fun hc => ?_) | refine zqm _ rfl (fun hc => ?_) (fun hc => ?_)) <;> (((try simp only [z03] at hc); (try omega)))) | refine zqu (by (simp (disch := omega) only [go_sem, Nat.reduceBEq, ↓reduceIte, Nat.reduceLeDiff, r4, rH2]); rfl) rfl ?_ | (refine hK _ ?_; clear hK K))
   ·rw [zzj hno O rp2 (by assumption)]
    refine z18 (by simp only [pureD, pureD.pureL, z27, Bool.and_self]) ?_
    exact Le.refl _
   ·(refine Exists.intro _ (And.intro ?_ ⟨k + 1, rfl, ?_⟩)); rotate_left; (simp (disch := omega) only [go_sem, Nat.reduceBEq, Nat.reduceLeDiff, r2, r3, r4, r8, rH0, rH1, rH2, true_and, Int.natCast_add, Int.natCast_one, cellsId]); rotate_left
    ·omega
    ·refine ⟨by omega, by omega, fun j hj h => ?_⟩
     by_cases e : j = k
     ·subst e; omega
     ·exact rp2 j (by omega) h
  ·repeat' (first | refine nxt ?_ | ((refine zqh fun K hK => ?_); (simp (disch := omega) only [go_sem, Nat.reduceBEq, ↓reduceIte, reduceCtorEq, Nat.reduceAdd, Nat.reduceLeDiff, r2, r4, r8, rH0, rH2, z0b])) | (refine zqd _ rfl ?_ ?_ <;> intro hc <;> (((try simp only [z03] at hc); (try omega)))) | refine zqz ?_ | refine zqu (by (simp (disch := omega) only [go_sem, Nat.reduceBEq, ↓reduceIte, Nat.reduceAdd, Nat.reduceLeDiff, r4, rH2]); rfl) rfl ?_ | (refine hK _ ?_; clear hK K))
   rw [zzk hno fun j h => rp2 j (by omega) h]
   exact z18 (by simp only [pureD, pureD.pureL, Bool.and_self]) (Le.tup ⟨zie, Le.refl _, Le.refl _, trivial⟩)
theorem zlg (u : T) (h : Fit50 u) : PC prog 39 [z1f u] (.bool (z39 u)) := by
 have hc := h.cnt
 have V := h.dep
 have c1 := pc_May u h.sz (by omega) (by omega)
 obtain ⟨h0, h1, g1, h2, g2, h3, h4⟩ := (z2o u).1 h.sz
 refine z2f 1 (by simp only [pureD.pureL, z0a, Bool.and_self]) rfl (z23 [] func39 rfl (by decide +kernel) rfl ?_)
 show awp _ _ (Code.seq _ _) _ _
 unfold z39
 by_cases O : u.kind = 0
 ·cases hv : z6r u
  ·rw [hv] at c1
   repeat' (first | ((first | refine zqh fun K hK => ?_ | refine zqe (by decide +kernel) fun K hK => ?_ | refine zqt (c1) ?_); (simp (disch := omega) only [go_sem, Nat.reduceBEq, ↓reduceIte, reduceCtorEq, Nat.reduceAdd, Nat.reduceLeDiff, O])) | refine nxt ?_ | refine zqu (by simp only [go_sem]; rfl) rfl ?_ | (refine hK _ ?_; clear hK K))
   exact z00 (by simp [O])
  ·rw [hv] at c1
   cases hks : u.kids with
   | nil =>
    repeat' (first | ((first | refine zqh fun K hK => ?_ | refine zqe (by decide +kernel) fun K hK => ?_ | refine zqt (c1) ?_); (simp (disch := omega) only [go_sem, Nat.reduceBEq, ↓reduceIte, reduceCtorEq, Nat.reduceAdd, Nat.reduceLeDiff, O, hks, z0b, List.map_nil, List.length_nil])) | refine nxt ?_ | refine zqu (by (simp (disch := omega) only [go_sem, Nat.reduceBEq, ↓reduceIte]); rfl) rfl ?_ | (refine hK _ ?_; clear hK K))
    exact z00 (by simp [O])
   | cons k l =>
    have hi0 : ∀ (d : D) (ds : List D), zgb (d :: ds) 0 = some d := fun d ds => by unfold zgb; simp
    repeat' (first | ((first | refine zqh fun K hK => ?_ | refine zqe (by decide +kernel) fun K hK => ?_ | refine zqt (c1) ?_); (simp (disch := omega) only [go_sem, Nat.reduceBEq, ↓reduceIte, reduceCtorEq, Nat.reduceAdd, Nat.reduceLeDiff, O, hks, z0b, List.map_cons, List.length_cons])) | refine nxt ?_ | refine zqu (by simp only [go_sem]; rfl) rfl ?_ | (refine hK _ ?_; clear hK K) | (refine zqf (fun hb => ?_) (fun hb => ?_) <;> (have hb2 := hb; try simp only [z03] at hb2) <;> ((first | have F := eq_false hb2 | have F := eq_true hb2); (simp (disch := omega) only [go_sem, Nat.reduceBEq, ↓reduceIte, reduceCtorEq, Nat.reduceAdd, Nat.reduceLeDiff, F, hks, z0b, List.map_cons, List.length_cons, hi0]); clear hb F; (try omega))))
    exact z00 (by simp [O])
 ·skip
  repeat' (first | ((first | refine zqh fun K hK => ?_ | refine zqe (by decide +kernel) fun K hK => ?_); (simp (disch := omega) only [go_sem, Nat.reduceBEq, ↓reduceIte, reduceCtorEq, Nat.reduceAdd, O])) | refine nxt ?_ | refine zqu (by simp only [go_sem]; rfl) rfl ?_ | (refine hK _ ?_; clear hK K))
  exact z00 (by simp [O])
theorem zp8 (i : Idv) (u : T) : decide (0 <= zbf i u) = z26 i u := by
 rw [z1k, decide_eq_decide, znc]
 exact z9o
theorem z000 (u : T) (i : Idv) (h : Fit50 u) : PC prog 53 [z1f u, z48 i] (.bool (z26 i u)) := by
 have V := h.dep
 have c1 := zoz i u h.sz (by omega)
 refine z2f 1 (by simp only [pureD.pureL, z0a]; rfl) rfl (z23 [] func53 rfl (by decide +kernel) rfl ?_)
 show awp _ _ (Code.seq _ _) _ _
 repeat' (first | ((first | refine zqh fun K hK => ?_ | refine zqs (c1) ?_); (simp (disch := omega) only [go_sem, Nat.reduceBEq, ↓reduceIte, Nat.reduceAdd, Nat.reduceLeDiff])) | refine nxt ?_ | refine zqu (by simp only [go_sem]; rfl) rfl ?_ | (refine hK _ ?_; clear hK K))
 exact z00 (zp8 i u)
theorem pc_in49 (l : List Idv) (i : Idv) (hl : l.length <= 1000000) : PC prog 55 [z0q l, z48 i] (.bool (decide (i ∈ l))) := by
  refine z2f 1 (by simp only [pureD.pureL, z34]; rfl) rfl (z23 [] func55 rfl (by decide +kernel) rfl ?_)
  show awp _ _ (Code.seq _ _) _ _
  repeat' (first | refine nxt ?_ | ((refine zqh fun K hK => ?_); (simp (disch := omega) only [go_sem])) | (refine hK _ ?_; clear hK K))
  (refine z3i (fun U st => ∃ (n : Nat), U = l.length - n /\ st.t 0 = z0q l /\ st.t 3 = .ptr 0 0 /\ st.t 5 = .int .i64 n /\ st.H (0) = some (.box 23 (cellsId i)) /\ (n <= l.length) /\ (¬ i ∈ l.take n)) ?_ ?_); rotate_left; (rintro U st ⟨n, rfl, v0, v3, v5, vH0, vp0, vp1⟩); rotate_left
  · (refine ⟨_, 0, rfl, ?_⟩); (simp (disch := omega) only [go_sem, Nat.reduceBEq, true_and, Int.natCast_zero, z0q, cellsId])
    exact fun h => by cases h
  by_cases hi : n < l.length
  · have htk := List.take_succ_eq_append_getElem hi
    by_cases he : l[n] = i
    · repeat' (first | refine nxt ?_ | ((first | refine zqh fun K hK => ?_ | refine zqe (by decide +kernel) fun K hK => ?_); (simp (disch := omega) only [go_sem, Nat.reduceBEq, ↓reduceIte, reduceCtorEq, Nat.reduceAdd, Nat.reduceLeDiff, v0, v3, v5, vH0, z0q, cellsId, he])) | ((first | refine zqd _ rfl (fun hc => ?_) (fun hc => ?_) | refine zqm _ rfl (fun hc => ?_) (fun hc => ?_)) <;> (first | (cases hc; done) | ((try simp only [z03] at hc); (try omega)))) | refine zqu (by simp only [go_sem]; rfl) rfl ?_ | (refine hK _ ?_; clear hK K))
      exact z00 (by have : i ∈ l := he ▸ List.getElem_mem hi
                    simp [this])
    · repeat' (first | refine nxt ?_ | ((first | refine zqh fun K hK => ?_ | refine zqe (by decide +kernel) fun K hK => ?_ | refine zqr fun K hK => ?_); (simp (disch := omega) only [go_sem, Nat.reduceBEq, ↓reduceIte, reduceCtorEq, Nat.reduceAdd, Nat.reduceLeDiff, v0, v3, v5, vH0, z0q, cellsId, he])) | ((first | refine zqd _ rfl (fun hc => ?_) (fun hc => ?_) | refine zqm _ rfl (fun hc => ?_) (fun hc => ?_)) <;> (first | (cases hc; done) | ((try simp only [z03] at hc); (try omega)))) | (refine hK _ ?_; clear hK K))
      (refine Exists.intro _ (And.intro ?_ ⟨n + 1, rfl, ?_⟩)); rotate_left; (simp (disch := omega) only [go_sem, Nat.reduceBEq, v0, v3, v5, vH0, true_and, Int.natCast_add, Int.natCast_one, cellsId]); rotate_left
      · omega
      · exact ⟨by omega, fun h => by rw [htk, List.mem_append, List.mem_singleton] at h; exact h.elim vp1 fun e => he e.symm⟩
  · repeat' (first | refine nxt ?_ | ((refine zqh fun K hK => ?_); (simp (disch := omega) only [go_sem, Nat.reduceBEq, ↓reduceIte, v0, v5, z0q])) | (refine zqd _ rfl ?_ ?_ <;> intro hc <;> (((try simp only [z03] at hc); (try omega)))) | refine zqz ?_ | refine zqu (by simp only [go_sem]; rfl) rfl ?_ | (refine hK _ ?_; clear hK K))
    have hta : l.take n = l := List.take_of_length_le (by omega)
    rw [hta] at vp1
    exact z00 (decide_eq_false vp1).symm
theorem z001 (A B : T) (fa : Fit50 A) (fb : Fit50 B) : PC prog 18 [z1f A, z1f B] (.bool (zag A B)) := by
 have V := fb.dep
 have hc := fa.cnt
 have c1 := zlg A fa
 have c2 := zlg B fb
 have c3 := zll A fa.sz (by omega)
 refine z2f 1 (by simp only [pureD.pureL, z0a, Bool.and_self]) rfl (z23 [3000026, 3000029, 3000031, 5000032] func18 rfl (by decide +kernel) rfl ?_)
 show awp _ _ (Code.seq _ _) _ _
 have hcm : zag A B = (z39 A && (z39 B && z4j A B)) := rfl
 cases ha : z39 A
 ·rw [ha] at c1 hcm
  repeat' (first | refine nxt ?_ | ((first | refine zqh fun K hK => ?_ | refine zqs (c1) ?_); (simp (disch := omega) only [go_sem, Nat.reduceBEq, ↓reduceIte, Nat.reduceAdd, Nat.reduceLeDiff])) | (refine zqd _ rfl ?_ ?_ <;> intro hc <;> (first | (cases hc; done) | ((try simp only [] at hc); (try omega)))) | refine zqu (by simp only [go_sem]; rfl) rfl ?_ | (refine hK _ ?_; clear hK K))
  exact z00 (by rw [hcm]; rfl)
 rw [ha] at c1 hcm
 cases hb2 : z39 B
 ·rw [hb2] at c2 hcm
  repeat' (first | refine nxt ?_ | ((first | refine zqh fun K hK => ?_ | refine zqs (c1) ?_ | refine zqs (c2) ?_); (simp (disch := omega) only [go_sem, Nat.reduceBEq, ↓reduceIte, Nat.reduceAdd, Nat.reduceLeDiff])) | (refine zqd _ rfl ?_ ?_ <;> intro hc <;> (first | (cases hc; done) | ((try simp only [] at hc); (try omega)))) | refine zqu (by simp only [go_sem]; rfl) rfl ?_ | (refine hK _ ?_; clear hK K))
  exact z00 (by rw [hcm]; rfl)
 rw [hb2] at c2 hcm
 rw [Bool.true_and, Bool.true_and] at hcm
 repeat' (first | refine nxt ?_ | ((first | refine zqh fun K hK => ?_ | refine zqs (c1) ?_ | refine zqs (c2) ?_ | refine zqs (c3) ?_); (simp (disch := omega) only [go_sem, Nat.reduceBEq, ↓reduceIte, Nat.reduceAdd, Nat.reduceLeDiff])) | (refine zqd _ rfl ?_ ?_ <;> intro hc <;> (first | (cases hc; done) | ((try simp only [] at hc); (try omega)))) | (refine hK _ ?_; clear hK K))
 (refine z3i (fun U st => ∃ (n : Nat), U = cntT A - n /\ st.t 3 = .ptr 1 0 /\ st.t 5 = z0b (nodesT A) /\ st.t 6 = .int .i64 n /\ st.H (1) = some (.box 27 (z06 B)) /\ (n <= cntT A) /\ (2 <= st.nx) /\ (∀ x ∈ (nodesT A).take n, (!z26 x.id B || decide ((findR x.id B).1.kind = x.kind)) = true)) ?_ ?_); rotate_left; (rintro U st ⟨n, rfl, v3, v5, v6, vH1, vp0, vp1, vp2⟩); rotate_left
 ·(refine ⟨_, 0, rfl, ?_⟩); (simp (disch := omega) only [go_sem, Nat.reduceBEq, Nat.reduceLeDiff, true_and, Int.natCast_zero, z0b])
  exact fun x hx => by cases hx
 have e0 := z05 (show 1 < st.nx by omega)
 by_cases hn : n < cntT A
 ·have hn' : n < (nodesT A).length := hn
  have c4 := zoz (nodesT A)[n].id B fb.sz (by omega)
  have hdp := zp8 (nodesT A)[n].id B
  have htk := List.take_succ_eq_append_getElem hn'
  cases hB : z26 (nodesT A)[n].id B
  ·rw [hB, decide_eq_false_iff_not] at hdp
   repeat' (first | refine nxt ?_ | ((first | refine zqh fun K hK => ?_ | refine zqe (by decide +kernel) fun K hK => ?_ | refine zqr fun K hK => ?_ | refine zqt (c4) ?_); (simp (disch := omega) only [go_sem, Nat.reduceBEq, Nat.reduceEqDiff, ↓reduceIte, reduceCtorEq, Nat.reduceAdd, Nat.reduceLeDiff, v3, v5, v6, vH1, z0b, hdp])) | ((first | refine zqd _ rfl (fun hc => ?_) (fun hc => ?_) | refine zqm _ rfl (fun hc => ?_) (fun hc => ?_)) <;> (first | (cases hc; done) | ((try simp only [z03] at hc); (try omega)))) | (refine hK _ ?_; clear hK K))
   (refine Exists.intro _ (And.intro ?_ ⟨n + 1, rfl, ?_⟩)); rotate_left; (simp (disch := omega) only [go_sem, Nat.reduceBEq, Nat.reduceLeDiff, v3, v5, v6, vH1, true_and, Int.natCast_add, Int.natCast_one, e0]); rotate_left
   ·omega
   ·exact ⟨by omega, by omega, fun x hx => by
     rw [htk, List.mem_append, List.mem_singleton] at hx
     rcases hx with hx | rfl
     ·exact vp2 x hx
     ·rw [hB]; simp⟩
  ·rw [hB, decide_eq_true_eq] at hdp
   by_cases O : (findR (nodesT A)[n].id B).1.kind = (nodesT A)[n].kind
   ·repeat' (first | refine nxt ?_ | ((first | refine zqh fun K hK => ?_ | refine zqe (by decide +kernel) fun K hK => ?_ | refine zqr fun K hK => ?_ | refine zqt (c4) ?_); (simp (disch := omega) only [go_sem, Nat.reduceBEq, Nat.reduceEqDiff, ↓reduceIte, reduceCtorEq, Nat.reduceAdd, Nat.reduceLeDiff, v3, v5, v6, vH1, z0b, hdp, O])) | ((first | refine zqd _ rfl (fun hc => ?_) (fun hc => ?_) | refine zqm _ rfl (fun hc => ?_) (fun hc => ?_)) <;> (first | (cases hc; done) | ((try simp only [z03] at hc); (try omega)))) | (refine hK _ ?_; clear hK K))
    (refine Exists.intro _ (And.intro ?_ ⟨n + 1, rfl, ?_⟩)); rotate_left; (simp (disch := omega) only [go_sem, Nat.reduceBEq, Nat.reduceLeDiff, v3, v5, v6, vH1, true_and, Int.natCast_add, Int.natCast_one, e0]); rotate_left
    ·omega
    ·exact ⟨by omega, by omega, fun x hx => by
      rw [htk, List.mem_append, List.mem_singleton] at hx
      rcases hx with hx | rfl
      ·exact vp2 x hx
      ·rw [hB]; simp [O]⟩
   ·repeat' (first | refine nxt ?_ | ((first | refine zqh fun K hK => ?_ | refine zqe (by decide +kernel) fun K hK => ?_ | refine zqt (c4) ?_); (simp (disch := omega) only [go_sem, Nat.reduceBEq, Nat.reduceEqDiff, ↓reduceIte, reduceCtorEq, Nat.reduceAdd, Nat.reduceLeDiff, v3, v5, v6, vH1, z0b, hdp, O])) | ((first | refine zqd _ rfl (fun hc => ?_) (fun hc => ?_) | refine zqm _ rfl (fun hc => ?_) (fun hc => ?_)) <;> (first | (cases hc; done) | ((try simp only [z03] at hc); (try omega)))) | refine zqu (by simp only [go_sem]; rfl) rfl ?_ | (refine hK _ ?_; clear hK K))
    refine z00 ?_
    rw [hcm]
    unfold z4j
    refine (List.all_eq_false.2 ⟨_, List.getElem_mem hn', ?_⟩).symm
    rw [hB]; simp [O]
 ·have hn2 : ¬ n < (nodesT A).length := hn
  repeat' (first | refine nxt ?_ | ((refine zqh fun K hK => ?_); (simp (disch := omega) only [go_sem, Nat.reduceBEq, ↓reduceIte, v5, v6, z0b])) | (refine zqd _ rfl ?_ ?_ <;> intro hc <;> (((try simp only [z03] at hc); (try omega)))) | refine zqz ?_ | refine zqu (by simp only [go_sem]; rfl) rfl ?_ | (refine hK _ ?_; clear hK K))
  have hta : (nodesT A).take n = nodesT A := List.take_of_length_le (by omega)
  rw [hta] at vp2
  refine z00 ?_
  rw [hcm]
  unfold z4j
  exact (List.all_eq_true.2 vp2).symm
end
end Go.Proofs.YtfechgagcgbldaaGreatDoor
