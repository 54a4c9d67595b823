import Derived.Test.YtfechgagcgbldaaDoorWE
/-
 Lemmas of the claim. No condition but those that each names.
-/
set_option linter.unusedSimpArgs false
set_option linter.unusedVariables false
set_option maxHeartbeats 8000000
set_option linter.unusedSectionVars false
namespace Go.Proofs.YtfechgagcgbldaaDoor
open _root_.Go.Proofs.Tryd
section
open Abs Facts Tr
attribute [local irreducible] awp
set_option maxRecDepth 100000
namespace Tr
theorem zpz {A B : T} (nb : (idsT B).Nodup) : (zos A B).Nodup := by
 rw [zw6, List.nodup_cons] at nb
 exact ((List.filter_sublist (l := edT B)).map _).nodup nb.2
theorem zk6 (t : T) : ((nodesT t).map unP).map (·.1) = idsT t := by rw [List.map_map]; rfl
theorem zew {A B : T} {ls : List Nat} {i : Nat} {x : T} (h : ∀ j ∈ ls, ∀ y, (nodesT A)[j]? = some y -> (!z23 y.id B || decide ((findR y.id B).1.kind = y.kind)) = true) (hx : (nodesT A)[i]? = some x) (O : (!z23 x.id B || decide ((findR x.id B).1.kind = x.kind)) = true) :
  ∀ j ∈ ls ++ [i], ∀ y, (nodesT A)[j]? = some y -> (!z23 y.id B || decide ((findR y.id B).1.kind = y.kind)) = true := by
 intro j hj y hy
 rcases List.mem_append.1 hj with hj | hj
 ·exact h j hj y hy
 ·rw [List.mem_singleton] at hj
  subst hj
  rw [hx, Option.some.injEq] at hy
  rw [<- hy]; exact O
end Tr
def z01m (A B : T) (H : HM) (r' : D) (H' : HM) (nx' : Nat) : Prop := (∀ id, id < 3 -> H' id = H id) /\ r' = .tup [.agg [.mp 6, .mp 7, .mp 8], .bool (z9g A B)] /\ 9 <= nx' /\ (z9g A B = true -> H' 6 = some (zb6 A) /\ H' 7 = some (zb6 B) /\ H' 8 = some (.map (setI (zos A B))))
theorem z6p {A B : T} {H H' : HM} {nx' : Nat} (h : z9g A B = false) (O : ∀ id, id < 3 -> H' id = H id) (hn : 9 <= nx') : z01m A B H (.tup [.agg [.mp 6, .mp 7, .mp 8], .bool false]) H' nx' := ⟨O, by rw [h], hn, fun h2 => by rw [h] at h2; cases h2⟩
set_option maxHeartbeats 32000000 in
theorem zu0 (A B : T) (fa : Fit50 A) (fb : Fit50 B) (H : HM) : AC prog 22 [z1n A, z1n B] H 3 (z01m A B H) := by
 have cca := fa.cnt
 have ccb := fb.cnt
 have cda := fa.dep
 have cdb := fb.dep
 have c1 := zgm A fa.sz (by omega) (by omega)
 have c2 := zgm B fb.sz (by omega) (by omega)
 have c3 := zc7 A (zde A fa.sz) (by omega)
 have c4 := zc7 B (zde B fb.sz) (by omega)
 have c5 := zmp 6 A fa.sz []
 have c6 := zmp 7 B fb.sz []
 have c7 := zp9 A B fa fb
 rw [List.nil_append] at c5 c6
 have hla : (mapI z1n ((nodesT A).map unP)).length = (z15 (idsT A)).length := by rw [zcc, zk6]
 have hlb : (mapI z1n ((nodesT B).map unP)).length = (z15 (idsT B)).length := by rw [zcc, zk6]
 have lea : (z15 (idsT A)).length <= cntT A := by have := (z2w (idsT A)).2.2.1; unfold idsT at this ⊢; unfold cntT; rwa [List.length_map] at this
 have leb : (z15 (idsT B)).length <= cntT B := by have := (z2w (idsT B)).2.2.1; unfold idsT at this ⊢; unfold cntT; rwa [List.length_map] at this
 have hma : (.map [] : HObj) = .map (mapI z1n []) := rfl
 have bad : ∀ {b : Bool}, b = false -> ¬ (b = true) := fun h => by rw [h]; decide
 have noA : z3r A = false -> z9g A B = false := fun h => by unfold z9g; rw [h]; rfl
 have noB : z3r B = false -> z9g A B = false := fun h => by unfold z9g; rw [h]; simp
 refine z9v func22 rfl (by decide +kernel) (by simp [ntmps22]) ?_
 rw [show Tryd.f22.results.toList = [.cell 4 57, .tmp 5] from rfl]
 refine Sem.seq (Sem.walk (own := []) z5z (by decide +kernel) ?_)
 repeat' (first | ((refine zqr fun K hK => ?_); (simp (disch := omega) only [go_sem, Nat.reduceBEq, Nat.reduceAdd])) | refine zqv ?_ | (refine hK _ ?_; clear hK K))
 refine Sem.seq (Sem.walk (own := []) z5z (by decide +kernel) ?_)
 repeat' (first | ((refine zqr fun K hK => ?_); (simp (disch := omega) only [go_sem, Nat.reduceBEq, ↓reduceIte, Nat.reduceAdd, Nat.reduceLeDiff])) | refine zqv ?_ | (refine hK _ ?_; clear hK K))
 refine Sem.seq (Sem.walk (own := []) z5z (by decide +kernel) ?_)
 by_cases ka : A.kind = 0
 rotate_left
 ·repeat' (first | ((refine zqh fun K hK => ?_); (simp (disch := omega) only [go_sem, Nat.reduceBEq, ↓reduceIte, reduceCtorEq, Nat.reduceAdd, Nat.reduceLeDiff, ka])) | ((refine zqm _ rfl (fun hc => ?_) (fun hc => ?_)) <;> (first | (cases hc; done) | ((try simp only [] at hc); (try omega)))) | refine zqn ?_ | refine zqx ?_ | refine zqu (by (simp (disch := omega) only [go_sem, Nat.reduceBEq, ↓reduceIte, Nat.reduceAdd, Nat.reduceLeDiff]); rfl) rfl ?_ | (refine hK _ ?_; clear hK K))
  refine z6p (noA (by rw [z9t]; simp [ka])) (fun id hid => ?_) (by show 9 <= 10; decide)
  (simp (disch := omega) only [go_sem])
  simp (disch := omega) only [z0c]
 by_cases kb : B.kind = 0
 rotate_left
 ·repeat' (first | ((refine zqh fun K hK => ?_); (simp (disch := omega) only [go_sem, Nat.reduceBEq, ↓reduceIte, reduceCtorEq, Nat.reduceAdd, Nat.reduceLeDiff, ka, kb])) | ((refine zqm _ rfl (fun hc => ?_) (fun hc => ?_)) <;> (first | (cases hc; done) | ((try simp only [] at hc); (try omega)))) | refine zqn ?_ | refine zqx ?_ | refine zqu (by (simp (disch := omega) only [go_sem, Nat.reduceBEq, ↓reduceIte, Nat.reduceAdd, Nat.reduceLeDiff]); rfl) rfl ?_ | (refine hK _ ?_; clear hK K))
  refine z6p (noB (by rw [z9t]; simp [kb])) (fun id hid => ?_) (by show 9 <= 10; decide)
  (simp (disch := omega) only [go_sem])
  simp (disch := omega) only [z0c]
 cases va : z8q A
 ·rw [va] at c1
  repeat' (first | ((first | refine zqh fun K hK => ?_ | refine zqs (c1) ?_); (simp (disch := omega) only [go_sem, Nat.reduceBEq, ↓reduceIte, reduceCtorEq, Nat.reduceAdd, Nat.reduceLeDiff, ka, kb])) | ((refine zqm _ rfl (fun hc => ?_) (fun hc => ?_)) <;> (first | (cases hc; done) | ((try simp only [] at hc); (try omega)))) | refine zqn ?_ | refine zqx ?_ | refine zqu (by (simp (disch := omega) only [go_sem, Nat.reduceBEq, ↓reduceIte, Nat.reduceAdd, Nat.reduceLeDiff]); rfl) rfl ?_ | (refine hK _ ?_; clear hK K))
  refine z6p (noA (by rw [z9t]; simp [va])) (fun id hid => ?_) (by show 9 <= 10; decide)
  (simp (disch := omega) only [go_sem])
  simp (disch := omega) only [z0c]
 rw [va] at c1
 cases vb : z8q B
 ·rw [vb] at c2
  repeat' (first | ((first | refine zqh fun K hK => ?_ | refine zqs (c1) ?_ | refine zqs (c2) ?_); (simp (disch := omega) only [go_sem, Nat.reduceBEq, ↓reduceIte, reduceCtorEq, Nat.reduceAdd, Nat.reduceLeDiff, ka, kb])) | ((refine zqm _ rfl (fun hc => ?_) (fun hc => ?_)) <;> (first | (cases hc; done) | ((try simp only [] at hc); (try omega)))) | refine zqn ?_ | refine zqx ?_ | refine zqu (by (simp (disch := omega) only [go_sem, Nat.reduceBEq, ↓reduceIte, Nat.reduceAdd, Nat.reduceLeDiff]); rfl) rfl ?_ | (refine hK _ ?_; clear hK K))
  refine z6p (noB (by rw [z9t]; simp [vb])) (fun id hid => ?_) (by show 9 <= 10; decide)
  (simp (disch := omega) only [go_sem])
  simp (disch := omega) only [z0c]
 rw [vb] at c2
 repeat' (first | ((first | refine zqh fun K hK => ?_ | refine zqs (c1) ?_ | refine zqs (c2) ?_); (simp (disch := omega) only [go_sem, Nat.reduceBEq, ↓reduceIte, reduceCtorEq, Nat.reduceAdd, Nat.reduceLeDiff, ka, kb])) | ((refine zqm _ rfl (fun hc => ?_) (fun hc => ?_)) <;> (first | (cases hc; done) | ((try simp only [] at hc); (try omega)))) | refine zqk ?_ | refine zqv ?_ | (refine hK _ ?_; clear hK K))
 refine Sem.seq (Sem.walk (own := []) z5z (by decide +kernel) ?_)
 repeat' (first | ((first | refine zqr fun K hK => ?_ | ((refine zh9 (c5) ?_ ?_ ?_); (focus ((simp (disch := omega) only [go_sem, Nat.reduceBEq]); done)); (focus (((simp (disch := omega) only [go_sem]); done))))); (simp (disch := omega) only [go_sem, Nat.reduceBEq, ↓reduceIte, reduceCtorEq, Nat.reduceAdd, Nat.reduceLeDiff, hma])) | refine zqv ?_ | (refine hK _ ?_; clear hK K))
 refine Sem.seq (Sem.walk (own := []) z5z (by decide +kernel) ?_)
 repeat' (first | ((first | refine zqr fun K hK => ?_ | ((refine zh9 (c6) ?_ ?_ ?_); (focus ((simp (disch := omega) only [go_sem, Nat.reduceBEq]); done)); (focus (((simp (disch := omega) only [go_sem]); done))))); (simp (disch := omega) only [go_sem, Nat.reduceBEq, ↓reduceIte, reduceCtorEq, Nat.reduceAdd, Nat.reduceLeDiff])) | refine zqv ?_ | (refine hK _ ?_; clear hK K))
 refine Sem.seq (Sem.walk (own := []) z5z (by decide +kernel) ?_)
 have ba : z3r A = true ↔ (idsT A).Nodup := by rw [z1g]; exact ⟨fun h => h.2.2, fun h => ⟨ka, va, h⟩⟩
 have bb : z3r B = true ↔ (idsT B).Nodup := by rw [z1g]; exact ⟨fun h => h.2.2, fun h => ⟨kb, vb, h⟩⟩
 by_cases na : (idsT A).Nodup
 rotate_left
 ·have h1 : ¬ ((((z15 (idsT A)).length : Nat) : Int) = (cntT A : Int)) := fun h => na ((z9s A).1 h)
  repeat' (first | ((first | refine zqh fun K hK => ?_ | refine zqs (c3) ?_); (simp (disch := omega) only [go_sem, Nat.reduceBEq, ↓reduceIte, reduceCtorEq, Nat.reduceAdd, Nat.reduceLeDiff, hla, h1])) | ((refine zqm _ rfl (fun hc => ?_) (fun hc => ?_)) <;> (first | (cases hc; done) | ((try simp only [] at hc); (try omega)))) | refine zqn ?_ | refine zqx ?_ | refine zqu (by (simp (disch := omega) only [go_sem, Nat.reduceBEq, ↓reduceIte, Nat.reduceAdd, Nat.reduceLeDiff]); rfl) rfl ?_ | (refine hK _ ?_; clear hK K))
  refine z6p (noA (by cases h : z3r A with | false => rfl | true => exact absurd (ba.1 h) na)) (fun id hid => ?_) (by show 9 <= 10; decide)
  (simp (disch := omega) only [go_sem])
  simp (disch := omega) only [z0c]
 have ea : (((z15 (idsT A)).length : Nat) : Int) = (cntT A : Int) := (z9s A).2 na
 by_cases nb : (idsT B).Nodup
 rotate_left
 ·have h1 : ¬ ((((z15 (idsT B)).length : Nat) : Int) = (cntT B : Int)) := fun h => nb ((z9s B).1 h)
  repeat' (first | ((first | refine zqh fun K hK => ?_ | refine zqs (c3) ?_ | refine zqs (c4) ?_); (simp (disch := omega) only [go_sem, Nat.reduceBEq, ↓reduceIte, reduceCtorEq, Nat.reduceAdd, Nat.reduceLeDiff, hla, hlb, ea, h1])) | ((refine zqm _ rfl (fun hc => ?_) (fun hc => ?_)) <;> (first | (cases hc; done) | ((try simp only [] at hc); (try omega)))) | refine zqn ?_ | refine zqx ?_ | refine zqu (by (simp (disch := omega) only [go_sem, Nat.reduceBEq, ↓reduceIte, Nat.reduceAdd, Nat.reduceLeDiff]); rfl) rfl ?_ | (refine hK _ ?_; clear hK K))
  refine z6p (noB (by cases h : z3r B with | false => rfl | true => exact absurd (bb.1 h) nb)) (fun id hid => ?_) (by show 9 <= 10; decide)
  (simp (disch := omega) only [go_sem])
  simp (disch := omega) only [z0c]
 have eb : (((z15 (idsT B)).length : Nat) : Int) = (cntT B : Int) := (z9s B).2 nb
 repeat' (first | ((first | refine zqh fun K hK => ?_ | refine zqs (c3) ?_ | refine zqs (c4) ?_); (simp (disch := omega) only [go_sem, Nat.reduceBEq, ↓reduceIte, reduceCtorEq, Nat.reduceAdd, Nat.reduceLeDiff, hla, hlb, ea, eb])) | ((refine zqm _ rfl (fun hc => ?_) (fun hc => ?_)) <;> (first | (cases hc; done) | ((try simp only [] at hc); (try omega)))) | refine zqk ?_ | refine zqv ?_ | (refine hK _ ?_; clear hK K))
 clear c1 c2 c3 c4 c5 c6
 have hcm : z9g A B = z4f A B := by unfold z9g; rw [ba.2 na, bb.2 nb]; rfl
 have nk : (((nodesT A).map unP).map (·.1)).Nodup := by rw [zk6]; exact na
 refine Sem.seq (Sem.rangeL (own := []) 2 z5z rfl rfl rfl ⟨rfl, rfl, rfl⟩ ⟨rfl, rfl, rfl⟩ ⟨rfl, rfl, rfl⟩ ⟨rfl, rfl, rfl⟩ mapT54 (by decide +kernel) (by decide +kernel) (by decide +kernel) ?_)
 (simp (disch := omega) only [go_sem, Nat.reduceBEq, ↓reduceIte, reduceCtorEq, Nat.reduceAdd, List.take_succ_cons, List.take_zero, List.map_cons, List.map_nil])
 refine ⟨6, mapI z1n ((nodesT A).map unP), rfl, by (simp (disch := omega) only [go_sem, Nat.reduceBEq]), fun M J => ⟨fun ls st => st.H 6 = some M /\ st.H 10 = some (J ls) /\ st.t 61 = .it 10 /\ st.t 2 = .ptr 3 0 /\ st.t 3 = .ptr 4 0 /\ st.t 4 = .ptr 5 0 /\ st.t 6 = .ptr 9 0 /\ st.H 3 = some (.box 27 (z08 A)) /\ st.H 4 = some (.box 27 (z08 B)) /\ st.H 5 = some (.box 57 [.nmp, .nmp, .nmp]) /\ st.H 9 = some (.box 57 [.mp 6, .mp 7, .mp 8]) /\ st.H 7 = some (.map (mapI z1n ((nodesT B).map unP))) /\ st.H 8 = some (.map []) /\
  11 <= st.nx /\ (∀ id, id < 3 -> st.H id = H id) /\ ∀ j ∈ ls, ∀ y, (nodesT A)[j]? = some y -> (!z23 y.id B || decide ((findR y.id B).1.kind = y.kind)) = true, ?_, ?_, ?_, ?_⟩⟩
 ·rintro ls st ⟨g1, g2, g3, _⟩
  refine ⟨g1, ?_, ?_⟩
  ·(simp (disch := omega) only [go_sem])
   exact g2
  ·(simp (disch := omega) only [go_sem])
   exact g3
 ·unfold zp2
  (simp (disch := omega) only [go_sem, Nat.reduceBEq, Nat.reduceAdd, Nat.reduceLeDiff, true_and])
  refine ⟨rfl, fun id hid => ?_, fun j hj => by cases hj⟩
  simp (disch := omega) only [z0c]
 ·rintro ls st i k v ⟨g1, g2, g3, g4, g5, g6, g7, g8, g9, g10, g11, g12, g13, g14, g15, g16⟩ hnd hlt hil hkv
  obtain ⟨e, he, rfl, rfl⟩ := zph nk hkv
  rw [List.getElem?_map, Option.map_eq_some_iff] at he
  obtain ⟨y, hy, rfl⟩ := he
  have s3 := z03 (show 3 < st.nx by omega)
  have s4 := z03 (show 4 < st.nx by omega)
  have s5 := z03 (show 5 < st.nx by omega)
  have s6 := z03 (show 6 < st.nx by omega)
  have s7 := z03 (show 7 < st.nx by omega)
  have s8 := z03 (show 8 < st.nx by omega)
  have s9 := z03 (show 9 < st.nx by omega)
  have s10 := z03 (show 10 < st.nx by omega)
  unfold zp3
  rw [show (unP y).1 = y.id from rfl, show (unP y).2 = y from rfl]
  rcases z9m nb y.id with ⟨hB, _, n, hf⟩ | ⟨hB, _, hf⟩
  ·by_cases O : (findR y.id B).1.kind = y.kind
   ·(simp (disch := omega) only [go_sem, Nat.reduceBEq, ↓reduceIte, Nat.reduceAdd, Nat.reduceLeDiff])
    repeat' (first | ((refine zqh fun K hK => ?_); (simp (disch := omega) only [go_sem, Nat.reduceBEq, ↓reduceIte, reduceCtorEq, Nat.reduceAdd, Nat.reduceLeDiff, s3, s7, s9, s10, g7, g11, g12, hf, O])) | ((refine zqm _ rfl (fun hc => ?_) (fun hc => ?_)) <;> (first | (cases hc; done) | ((try simp only [] at hc); (try omega)))) | refine zqk ?_ | (refine hK _ ?_; clear hK K))
    refine zeq ?_
    (simp (disch := omega) only [go_sem, Nat.reduceBEq, Nat.reduceLeDiff, s3, s4, s5, s6, s7, s8, s9, s10, g1, g2, g3, g4, g5, g6, g7, g8, g9, g10, g11, g12, g13, true_and])
    exact ⟨by omega, fun id hid => by simp (disch := omega) only [z0c]; exact g15 id hid, zew g16 hy (by rw [O]; simp)⟩
   ·(simp (disch := omega) only [go_sem, Nat.reduceBEq, ↓reduceIte, Nat.reduceAdd, Nat.reduceLeDiff])
    repeat' (first | ((refine zqh fun K hK => ?_); (simp (disch := omega) only [go_sem, Nat.reduceBEq, ↓reduceIte, reduceCtorEq, Nat.reduceAdd, Nat.reduceLeDiff, s3, s5, s7, s9, s10, g6, g7, g10, g11, g12, hf, O])) | ((refine zqm _ rfl (fun hc => ?_) (fun hc => ?_)) <;> (first | (cases hc; done) | ((try simp only [] at hc); (try omega)))) | refine zqn ?_ | (refine hK _ ?_; clear hK K))
    refine zw2 ?_
    have hkf : z9g A B = false := by
     rw [hcm]
     unfold z4f
     rw [List.all_eq_false]
     exact ⟨y, List.mem_of_getElem? hy, by rw [hB]; simp [O]⟩
    repeat' (first | refine zqx ?_ | refine zqu (by (simp (disch := omega) only [go_sem, Nat.reduceBEq, ↓reduceIte, Nat.reduceAdd, Nat.reduceLeDiff, s5, g6, g10]); rfl) rfl ?_)
    refine z6p hkf (fun id hid => ?_) ?_
    ·(simp (disch := omega) only [go_sem])
     simp (disch := omega) only [z0c]
     exact g15 id hid
    ·(simp (disch := omega) only [go_sem, Nat.reduceLeDiff])
     all_goals omega
  ·(simp (disch := omega) only [go_sem, Nat.reduceBEq, ↓reduceIte, Nat.reduceAdd, Nat.reduceLeDiff])
   repeat' (first | ((refine zqh fun K hK => ?_); (simp (disch := omega) only [go_sem, Nat.reduceBEq, ↓reduceIte, reduceCtorEq, Nat.reduceAdd, Nat.reduceLeDiff, s3, s7, s9, s10, g7, g11, g12, hf])) | ((refine zqm _ rfl (fun hc => ?_) (fun hc => ?_)) <;> (first | (cases hc; done) | ((try simp only [] at hc); (try omega)))) | refine zqk ?_ | (refine hK _ ?_; clear hK K))
   refine zeq ?_
   (simp (disch := omega) only [go_sem, Nat.reduceBEq, Nat.reduceLeDiff, s3, s4, s5, s6, s7, s8, s9, s10, g1, g2, g3, g4, g5, g6, g7, g8, g9, g10, g11, g12, g13, true_and])
   exact ⟨by omega, fun id hid => by simp (disch := omega) only [z0c]; exact g15 id hid, zew g16 hy (by rw [hB]; rfl)⟩
 ·rintro ls st ⟨g1, g2, g3, g4, g5, g6, g7, g8, g9, g10, g11, g12, g13, g14, g15, g16⟩ hnd hlt hall
  unfold zjz
  refine zqv (Sem.walk (own := []) z5z (by decide +kernel) ?_)
  have hkt : z4f A B = true := by
   unfold z4f
   rw [List.all_eq_true]
   intro y hy
   obtain ⟨i, hi, e⟩ := List.getElem_of_mem hy
   exact g16 i (hall i (by rw [zhx nk, List.length_map]; exact hi)) y (by rw [List.getElem?_eq_getElem hi, e])
  rw [hkt] at hcm
  rw [if_pos hcm] at c7
  repeat' (first | refine zqj ?_ | ((first | refine zqh fun K hK => ?_ | refine zqs (c7) ?_); (simp (disch := omega) only [go_sem, Nat.reduceBEq, ↓reduceIte, Nat.reduceAdd, Nat.reduceLeDiff, g4, g5, g8, g9])) | refine zqa ?_ | (refine hK _ ?_; clear hK K))
  obtain ⟨L, hL⟩ : ∃ L, L = zos A B := ⟨_, rfl⟩
  have hLn : L.Nodup := by rw [hL]; exact zpz nb
  have hLl : L.length <= 1000000 := by rw [hL, <- zl6]; have h1 := zp5 A (edT B); have h2 := zw1 B; omega
  (refine z8h (fun U st => ∃ (i : Nat), U = L.length - i /\ st.t 4 = .ptr 5 0 /\ st.t 6 = .ptr 9 0 /\ st.t 85 = z48 L /\ st.t 86 = .int .i64 L.length /\ st.t 87 = .int .i64 i /\ st.H (5) = some (.box 57 [.nmp, .nmp, .nmp]) /\ st.H (9) = some (.box 57 [.mp 6, .mp 7, .mp 8]) /\ st.H (6) = some (.map (mapI z1n ((nodesT A).map unP))) /\ st.H (7) = some (.map (mapI z1n ((nodesT B).map unP))) /\ st.H (8) = some (.map (setI (L.take i))) /\ (i <= L.length) /\ (11 <= st.nx) /\ (∀ id, id < 3 -> st.H id = H id)) ?_ ?_); rotate_left; (rintro U st ⟨i, rfl, w4, w6, w85, w86, w87, wH5, wH9, wH6, wH7, wH8, wp0, wp1, wp2⟩); rotate_left
  ·(refine ⟨_, 0, rfl, ?_⟩); (simp (disch := omega) only [go_sem, Nat.reduceBEq, true_and, Int.natCast_zero, z48, hL, g6, g7, g10, g11, g12, g13])
   exact ⟨rfl, g14, fun id hid => by simp (disch := omega) only [z0c]; exact g15 id hid⟩
  have t5 := z03 (show 5 < st.nx by omega)
  have t6 := z03 (show 6 < st.nx by omega)
  have t7 := z03 (show 7 < st.nx by omega)
  have t8 := z03 (show 8 < st.nx by omega)
  have t9 := z03 (show 9 < st.nx by omega)
  by_cases hi : i < L.length
  ·have hnew : L[i] ∉ L.take i := by
    intro hmem
    obtain ⟨j, hj, e⟩ := List.getElem_of_mem hmem
    rw [List.length_take] at hj
    rw [List.getElem_take] at e
    have := (List.getElem_inj hLn).1 e
    omega
   have hfk := zbe L[i] (L.take i)
   rw [if_neg hnew] at hfk
   have hsn := z9f (L.take i) L[i]
   have htk : L.take (i + 1) = L.take i ++ [L[i]] := List.take_succ_eq_append_getElem hi
   repeat' (first | ((first | refine zqh fun K hK => ?_ | refine zqr fun K hK => ?_); (simp (disch := omega) only [go_sem, Nat.reduceBEq, ↓reduceIte, reduceCtorEq, Nat.reduceAdd, Nat.reduceLeDiff, w6, w85, w86, w87, wH9, wH8, t8, t9, z48, hfk, hsn])) | (refine zqd _ rfl ?_ ?_ <;> intro hc <;> (((try simp only [z0e] at hc); (try omega)))) | refine zqa ?_ | refine zqb ?_ | refine zqv ?_ | refine zqy ?_ | (refine hK _ ?_; clear hK K))
   refine ⟨_, SealTo.refl _, ?_⟩
   repeat' (first | ((refine zqr fun K hK => ?_); (simp (disch := omega) only [go_sem, Nat.reduceBEq, ↓reduceIte, w87])) | (refine hK _ ?_; clear hK K))
   (refine Exists.intro _ (And.intro ?_ ⟨i + 1, rfl, ?_⟩)); rotate_left; (simp (disch := omega) only [go_sem, Nat.reduceBEq, Nat.reduceLeDiff, w4, w6, w85, w86, w87, wH5, wH9, wH6, wH7, wH8, true_and, Int.natCast_add, Int.natCast_one, t5, t6, t7, t8, t9, htk]); rotate_left
   ·omega
   ·exact ⟨by omega, by omega, fun id hid => by simp (disch := omega) only [z0c]; exact wp2 id hid⟩
  ·repeat' (first | ((refine zqh fun K hK => ?_); (simp (disch := omega) only [go_sem, ↓reduceIte, w86, w87])) | (refine zqd _ rfl ?_ ?_ <;> intro hc <;> (((try simp only [z0e] at hc); (try omega)))) | refine zqc ?_ | refine zqv ?_ | refine zqz ?_ | refine zqp ?_ | (refine hK _ ?_; clear hK K))
   refine ⟨_, SealTo.refl _, ?_⟩
   repeat' (first | ((refine zqh fun K hK => ?_); (simp (disch := omega) only [go_sem, Nat.reduceBEq, ↓reduceIte, Nat.reduceAdd, Nat.reduceLeDiff, w4, w6, wH5, wH9])) | refine zqn ?_ | refine zqu (by (simp (disch := omega) only [go_sem, Nat.reduceBEq, ↓reduceIte, Nat.reduceAdd, Nat.reduceLeDiff, w4, wH5]); rfl) rfl ?_ | (refine hK _ ?_; clear hK K))
   have hta : L.take i = L := List.take_of_length_le (by omega)
   rw [hta, hL] at wH8
   refine ⟨fun id hid => ?_, by rw [hcm], ?_, fun _ => ⟨?_, ?_, ?_⟩⟩
   ·(simp (disch := omega) only [go_sem])
    simp (disch := omega) only [z0c]
    exact wp2 id hid
   ·(simp (disch := omega) only [go_sem])
    all_goals omega
   ·(simp (disch := omega) only [go_sem, Nat.reduceBEq, wH6])
    rfl
   ·(simp (disch := omega) only [go_sem, Nat.reduceBEq, wH7])
    rfl
   ·(simp (disch := omega) only [go_sem, Nat.reduceBEq, wH8])
namespace Tr
def TT.zero : TT := .mk 0 0 Idv.zero ByteArray.empty ByteArray.empty false [] [] []
def z8j (A B : T) : TT × Int := if z9g A B = true then (z79 A B, 0) else (TT.zero, 1)
end Tr
set_option maxHeartbeats 16000000 in
theorem zgj (A B : T) (fa : Fit50 A) (fb : Fit50 B) : PC prog 8 [z1n A, z1n B] (.tup [z8i (z8j A B).1, .int .i64 (z8j A B).2]) := by
 refine z3l 3 (by simp only [pureD.pureL, z0n, Bool.and_self]) (by simp only [pureD, pureD.pureL, z2t, Bool.and_self]) (z2o [] func8 rfl (by decide +kernel) rfl ?_)
 show awp _ _ (Code.seq _ _) _ _
 rw [show Tryd.f8.results.toList = [.cell 4 33, .tmp 5] from rfl]
 repeat' (first | ((refine zqh fun K hK => ?_); (simp (disch := omega) only [go_sem, Nat.reduceBEq, ↓reduceIte, Nat.reduceAdd, Nat.reduceLeDiff])) | (refine hK _ ?_; clear hK K))
 refine z2v ((zu0 A B fa fb _).mono ?_)
 rintro r1 H1 n1 ⟨h1, rfl, h2, h3⟩
 have a0 : H1 0 = some (.box 27 (z08 A)) := h1 0 (by decide)
 have a1 : H1 1 = some (.box 27 (z08 B)) := h1 1 (by decide)
 have a2 : H1 2 = some (.box 33 [.int .i64 0, .int .i64 0, .int .i64 0, .int .i64 0, .int .i64 0, .str ByteArray.empty, .str ByteArray.empty, .bool false, .nil, .nil, .nil]) := h1 2 (by decide)
 have k0 := z03 (show 0 < n1 by omega)
 have k1 := z03 (show 1 < n1 by omega)
 have k2 := z03 (show 2 < n1 by omega)
 cases hc : z9g A B
 ·have e : z8j A B = (TT.zero, 1) := by unfold z8j; rw [if_neg (by rw [hc]; decide)]
  (try (simp (disch := omega) only [go_sem, Nat.reduceBEq, ↓reduceIte, Nat.reduceAdd, Nat.reduceLeDiff])); repeat' (first | refine nxt ?_ | ((refine zqh fun K hK => ?_); (simp (disch := omega) only [go_sem, Nat.reduceBEq, ↓reduceIte, Nat.reduceAdd, Nat.reduceLeDiff, a2, k2])) | (refine zqd _ rfl ?_ ?_ <;> intro hc <;> (first | (cases hc; done) | ((try simp only [] at hc); (try omega)))) | refine zqu (by (simp (disch := omega) only [go_sem, Nat.reduceBEq, ↓reduceIte, Nat.reduceAdd, Nat.reduceLeDiff, a2, k2]); rfl) rfl ?_ | (refine hK _ ?_; clear hK K))
  rw [e]
  refine z21 (nx := 0) rfl ?_
  show Le _ (D.tup [z8i TT.zero, D.int IntKind.i64 1])
  rw [z8i, z1d]
  exact Le.tup ⟨Le.agg ⟨Le.refl _, Le.refl _, Le.refl _, Le.refl _, Le.refl _, Le.refl _, Le.refl _, Le.refl _, Le.nil 2, Le.nil 2, Le.nil 11, trivial⟩, Le.refl _, trivial⟩
 ·obtain ⟨g6, g7, g8⟩ := h3 hc
  have e : z8j A B = (z79 A B, 0) := by unfold z8j; rw [if_pos hc]
  have k6 := z03 (show 6 < n1 by omega)
  have k7 := z03 (show 7 < n1 by omega)
  have k8 := z03 (show 8 < n1 by omega)
  have cf := fun H nx h1 h2 h3 h4 h5 h6 => zu4 A B (zos A B) (zcz hc) fa.sz fb.sz 6 7 8 B (z05 B) fb.sz H nx h1 h2 h3 h4 h5 h6
  (try (simp (disch := omega) only [go_sem, Nat.reduceBEq, ↓reduceIte, Nat.reduceAdd, Nat.reduceLeDiff])); repeat' (first | refine nxt ?_ | ((refine zqh fun K hK => ?_); (simp (disch := omega) only [go_sem, Nat.reduceBEq, ↓reduceIte, Nat.reduceAdd, Nat.reduceLeDiff, a1, k1])) | (refine zqd _ rfl ?_ ?_ <;> intro hc <;> (first | (cases hc; done) | ((try simp only [] at hc); (try omega)))) | (refine hK _ ?_; clear hK K))
  refine z34 (cf _ _ ?_ ?_ ?_ ?_ ?_ ?_) ?_
  ·(simp (disch := omega) only [go_sem])
   all_goals omega
  ·(simp (disch := omega) only [go_sem])
   all_goals omega
  ·(simp (disch := omega) only [go_sem])
   all_goals omega
  ·(simp (disch := omega) only [go_sem, k6])
   exact g6
  ·(simp (disch := omega) only [go_sem, k7])
   exact g7
  ·(simp (disch := omega) only [go_sem, k8])
   exact g8
  ·(try (simp (disch := omega) only [go_sem, Nat.reduceBEq, ↓reduceIte, Nat.reduceAdd, Nat.reduceLeDiff, a2, k2])); repeat' (first | refine nxt ?_ | refine zqu (by (simp (disch := omega) only [go_sem, Nat.reduceBEq, ↓reduceIte, Nat.reduceLeDiff, a2, k2]); rfl) rfl ?_ | (refine hK _ ?_; clear hK K))
   rw [e]
   refine z21 (nx := 0) (by simp only [pureD.pureL, pureD, z5i, Bool.and_self]) ?_
   exact Le.refl _
namespace Tr
def secL (n : Int) (label : ByteArray) (l : List ByteArray) : T := .mk ⟨1, 0, n⟩ 2 label [] (l.map fun s => ⟨s, Idv.zero⟩) []
def zjq (ks : List T) : T := .mk Idv.zero 0 ByteArray.empty [] [] ks
def ex1 : T := secL 1 ⟨#[49]⟩ [⟨#[97]⟩, ⟨#[98]⟩]
def ex2 : T := secL 1 ⟨#[49]⟩ [⟨#[97]⟩, ⟨#[99]⟩]
def ex3 : T := secL 1 ⟨#[49]⟩ []
def ex4 : T := secL 2 ⟨#[50]⟩ []
def exK1 : TT := .mk 0 2 ⟨1, 0, 1⟩ ⟨#[49]⟩ ByteArray.empty false [] [⟨0, ⟨#[97]⟩⟩, ⟨2, ⟨#[98]⟩⟩, ⟨1, ⟨#[99]⟩⟩] []
def exK2 : TT := .mk 2 0 ⟨1, 0, 1⟩ ByteArray.empty ByteArray.empty true [] [] []
def exK3 : TT := .mk 0 2 ⟨1, 0, 2⟩ ⟨#[50]⟩ ByteArray.empty false [] [] []
def exK4 : TT := .mk 1 2 ⟨1, 0, 1⟩ ⟨#[49]⟩ ByteArray.empty true [] [] []
def exD1 : TT := .mk 0 0 Idv.zero ByteArray.empty ByteArray.empty false [] [] [exK1]
def exD2 : TT := .mk 0 0 Idv.zero ByteArray.empty ByteArray.empty false [] [] [exK2, exK3, exK4]
theorem exR1 : z8j (zjq [ex1]) (zjq [ex2]) = (exD1, 0) := by kernel_rfl
theorem exR2 : z8j (zjq [ex3, ex4]) (zjq [ex4, ex3]) = (exD2, 0) := by kernel_rfl
end Tr
theorem z5j (n : Int) (label : ByteArray) (l : List ByteArray) (hl : l.length <= 100) : PC prog 21 [.int .i64 n, .str label, z2g l] (z1n (secL n label l)) := by
 refine z3l 4 (by simp only [pureD.pureL, z3e, pureD, Bool.and_self]) (z0n _) (z2o [] func21 rfl (by decide +kernel) rfl ?_)
 show awp _ _ (Code.seq _ _) _ _
 rw [show Tryd.f21.results.toList = [.cell 6 27] from rfl]
 repeat' (first | refine nxt ?_ | ((refine z1k (N := 2) rfl fun K hK => ?_); (simp (disch := omega) only [go_sem, Nat.reduceBEq, ↓reduceIte, Nat.reduceAdd, Nat.reduceLeDiff])) | (refine hK _ ?_; clear hK K))
 refine z5h fun K hK => ?_
 (simp (disch := omega) only [go_sem])
 refine hK _ _ (zf9 (b := 1) (off := 6) (e := 27) 83 (by (simp (disch := omega) only [go_sem, Nat.reduceBEq]); rfl) rfl) ?_
 clear hK K
 repeat' (refine zqa ?_)
 (refine z8h (fun U st => ∃ (i : _), U = l.length - i /\ st.t 2 = z2g l /\ st.t 6 = .ptr 0 0 /\ st.t 7 = .ptr 1 0 /\ st.t 8 = .int .i64 i /\ st.H (0) = some (.box 27 [.int .i64 0, .int .i64 0, .int .i64 0, .int .i64 0, .str ByteArray.empty, .nil, .nil, .nil]) /\ st.H (1) = some (.box 27 [.int .i64 1, .int .i64 0, .int .i64 n, .int .i64 2, .str label, .nil, .osl 2 i, .nil]) /\ st.H (2) = some (.row 83 i (((l.take i).map fun s => (⟨s, Idv.zero⟩ : Wd)).flatMap z6y)) /\ st.nx = 3 /\ (i <= l.length)) ?_ ?_); rotate_left; (rintro U st ⟨i, rfl, q2, q6, q7, q8, qH0, qH1, qH2, qnx, qp0⟩); rotate_left
 ·(refine ⟨_, 0, rfl, ?_⟩); (simp (disch := omega) only [go_sem, Nat.reduceBEq, Nat.reduceAdd, and_self, Int.natCast_zero, List.flatMap_nil, List.map_nil, z2g])
 by_cases hi : i < l.length
 ·repeat' (first | refine nxt ?_ | ((first | refine zqh fun K hK => ?_ | refine zqr fun K hK => ?_ | refine zqq (by decide +kernel) fun K hK => ?_); (simp (disch := omega) only [go_sem, Nat.reduceBEq, ↓reduceIte, reduceCtorEq, Nat.reduceAdd, Nat.reduceMul, Nat.reduceLeDiff, Nat.reduceLT, q2, q7, q8, qH1, qH2, qnx, z2g])) | (refine zqd _ rfl ?_ ?_ <;> intro hc <;> (((try simp only [z0e] at hc); (try omega)))) | refine Abs.zqv ?_ | (refine hK _ ?_; clear hK K))
  (refine Exists.intro _ (And.intro ?_ ⟨i + 1, rfl, ?_⟩)); rotate_left; (simp (disch := omega) only [go_sem, Nat.reduceBEq, q2, q6, q7, q8, qH0, qH1, qH2, true_and, Int.natCast_add, Int.natCast_one, List.flatMap_append, List.flatMap_cons, List.flatMap_nil, List.map_append, List.map_cons, List.map_nil, List.append_nil, List.take_succ_eq_append_getElem hi, z6y]); rotate_left
  ·omega
  ·exact ⟨rfl, by omega⟩
 ·repeat' (first | refine nxt ?_ | ((refine zqh fun K hK => ?_); (simp (disch := omega) only [go_sem, Nat.reduceBEq, ↓reduceIte, Nat.reduceAdd, Nat.reduceLeDiff, q2, q6, q7, q8, qH0, qH1, qnx, z2g])) | (refine zqd _ rfl ?_ ?_ <;> intro hc <;> (((try simp only [z0e] at hc); (try omega)))) | refine Abs.zqv ?_ | refine zqz ?_ | refine zqu (by (simp (disch := omega) only [go_sem, Nat.reduceBEq, ↓reduceIte, Nat.reduceAdd, Nat.reduceLeDiff, q6, qH0]); rfl) rfl ?_ | (refine hK _ ?_; clear hK K))
  have hie : i = (l.map fun s => (⟨s, Idv.zero⟩ : Wd)).length := by rw [List.length_map]; omega
  have hta : l.take i = l := List.take_of_length_le (by omega)
  rw [hta] at qH2
  rw [z1n, z0v]
  refine ⟨_, zi3 (k := 3) (by simp [pureD.pureL, pureD]) (z0b (z07 2 rfl) (z0b (z07 2 rfl) (z0b (z07 2 rfl) (z0b (z07 2 rfl) (z0b (z07 2 rfl) (z0b (z07 2 rfl) (z0b ?_ (z0b (z07 2 rfl) z40)))))))), Le.agg ⟨Le.refl _, Le.refl _, Le.refl _, Le.refl _, Le.refl _, Le.nil 4, Le.refl _, Le.nil 8, trivial⟩⟩
  rw [hie]
  refine z29 (f := z6y) (l := l.map fun s => (⟨s, Idv.zero⟩ : Wd)) 1 ?_ zhf zl2 (fun _ => rfl) (fun _ => rfl)
  rw [hie] at qH2
  (simp (disch := omega) only [go_sem, Nat.reduceBEq, qH2])
theorem zrb (a b : T) : Le (.agg [.int .i64 0, .int .i64 0, .int .i64 0, .int .i64 0, .str ByteArray.empty, .nil, .nil, .rsl true 8 [.agg (z08 a), .agg (z08 b)]]) (z1n (zjq [a, b])) := by
 rw [z1n, z0v (zjq [a, b])]
 exact Le.agg ⟨Le.refl _, Le.refl _, Le.refl _, Le.refl _, Le.refl _, Le.nil 4, Le.nil 4, Le.rsl, trivial⟩
theorem zwc (a : T) : Le (.agg [.int .i64 0, .int .i64 0, .int .i64 0, .int .i64 0, .str ByteArray.empty, .nil, .nil, .rsl true 8 [.agg (z08 a)]]) (z1n (zjq [a])) := by
 rw [z1n, z0v (zjq [a])]
 exact Le.agg ⟨Le.refl _, Le.refl _, Le.refl _, Le.refl _, Le.refl _, Le.nil 4, Le.nil 4, Le.rsl, trivial⟩
theorem fit_ex : (Fit50 (zjq [ex1]) /\ Fit50 (zjq [ex2])) /\ Fit50 (zjq [ex3, ex4]) /\ Fit50 (zjq [ex4, ex3]) := by
 refine ⟨⟨⟨?_, ?_, ?_⟩, ⟨?_, ?_, ?_⟩⟩, ⟨?_, ?_, ?_⟩, ⟨?_, ?_, ?_⟩⟩ <;> decide +kernel
theorem znm : PC prog 6 [] (.bool true) := by
 obtain ⟨⟨f1, f2⟩, f3, f4⟩ := fit_ex
 have s1 : PC prog 21 [.int .i64 1, .str ⟨#[49]⟩, .rsl true 1 [.str ⟨#[97]⟩, .str ⟨#[98]⟩]] (z1n ex1) := PC.le (z5j 1 ⟨#[49]⟩ [⟨#[97]⟩, ⟨#[98]⟩] (by decide)) rfl ⟨Le.refl _, Le.refl _, Le.rsl, trivial⟩
 have s2 : PC prog 21 [.int .i64 1, .str ⟨#[49]⟩, .rsl true 1 [.str ⟨#[97]⟩, .str ⟨#[99]⟩]] (z1n ex2) := PC.le (z5j 1 ⟨#[49]⟩ [⟨#[97]⟩, ⟨#[99]⟩] (by decide)) rfl ⟨Le.refl _, Le.refl _, Le.rsl, trivial⟩
 have s3 : PC prog 21 [.int .i64 1, .str ⟨#[49]⟩, .nil] (z1n ex3) := PC.le (z5j 1 ⟨#[49]⟩ [] (by decide)) rfl ⟨Le.refl _, Le.refl _, Le.nil 1, trivial⟩
 have s4 : PC prog 21 [.int .i64 2, .str ⟨#[50]⟩, .nil] (z1n ex4) := PC.le (z5j 2 ⟨#[50]⟩ [] (by decide)) rfl ⟨Le.refl _, Le.refl _, Le.nil 1, trivial⟩
 have d1 : PC prog 8 [.agg [.int .i64 0, .int .i64 0, .int .i64 0, .int .i64 0, .str ByteArray.empty, .nil, .nil, .rsl true 8 [.agg (z08 ex1)]], .agg [.int .i64 0, .int .i64 0, .int .i64 0, .int .i64 0, .str ByteArray.empty, .nil, .nil, .rsl true 8 [.agg (z08 ex2)]]] _ := PC.le (zgj (zjq [ex1]) (zjq [ex2]) f1 f2) (by simp only [pureD.pureL, pureD, z5b, Bool.and_self]) ⟨zwc ex1, zwc ex2, trivial⟩
 have d2 : PC prog 8 [.agg [.int .i64 0, .int .i64 0, .int .i64 0, .int .i64 0, .str ByteArray.empty, .nil, .nil, .rsl true 8 [.agg (z08 ex3), .agg (z08 ex4)]], .agg [.int .i64 0, .int .i64 0, .int .i64 0, .int .i64 0, .str ByteArray.empty, .nil, .nil, .rsl true 8 [.agg (z08 ex4), .agg (z08 ex3)]]] _ := PC.le (zgj (zjq [ex3, ex4]) (zjq [ex4, ex3]) f3 f4) (by simp only [pureD.pureL, pureD, z5b, Bool.and_self]) ⟨zrb ex3 ex4, zrb ex4 ex3, trivial⟩
 rw [exR1] at d1
 rw [exR2] at d2
 refine z3l 1 rfl rfl (z2o [] func6 rfl (by decide +kernel) rfl ?_)
 show awp _ _ (Code.seq _ _) _ _
 repeat' (first | refine nxt ?_ | ((first | refine z1k (N := 3) rfl fun K hK => ?_ | refine zqs (s1) ?_ | refine zqs (s2) ?_ | refine zqs (s3) ?_ | refine zqs (s4) ?_ | refine zqs (d1) ?_ | refine zqs (d2) ?_); (simp (disch := omega) only [go_sem, Nat.reduceBEq, ↓reduceIte, reduceCtorEq, Nat.reduceAdd, Nat.reduceMul, Nat.reduceLeDiff])) | (refine hK _ ?_; clear hK K))
 have k1 : exD1.kids = [exK1] := rfl
 have k2 : exD2.kids = [exK2, exK3, exK4] := rfl
 have w1 : exK1.words = [⟨0, ⟨#[97]⟩⟩, ⟨2, ⟨#[98]⟩⟩, ⟨1, ⟨#[99]⟩⟩] := rfl
 have hi0 : ∀ (d : D) (ds : List D), zft (d :: ds) 0 = some d := fun d ds => by unfold zft; simp
 have hi1 : ∀ (d e : D) (ds : List D), zft (d :: e :: ds) 1 = some e := fun d e ds => by unfold zft; rw [if_pos (by simp only [List.length_cons]; omega)]; rfl
 have hi2 : ∀ (d e f : D) (ds : List D), zft (d :: e :: f :: ds) 2 = some f := fun d e f ds => by unfold zft; rw [if_pos (by simp only [List.length_cons]; omega)]; rfl
 have m1 : exK2.moved = true := rfl
 have m2 : exK2.state = 2 := rfl
 have m3 : exK2.label = ByteArray.empty := rfl
 have m4 : exK3.state = 0 := rfl
 have m5 : exK4.state = 1 := rfl
 have m6 : exK4.label = ⟨#[49]⟩ := rfl
 repeat' (first | ((refine zqh fun K hK => ?_); (simp (disch := omega) only [go_sem, Nat.reduceBEq, ↓reduceIte, reduceCtorEq, Nat.reduceAdd, Nat.reduceLeDiff, k1, k2, w1, hi0, hi1, hi2, m1, m2, m3, z76, z0w, zu7, z2k, List.map_cons, List.map_nil, List.length_cons, List.length_nil, List.append_eq, List.cons_append, List.nil_append])) | (refine zqd _ rfl ?_ ?_ <;> intro hc <;> (first | (cases hc; done) | ((try simp only [z0e] at hc); (try omega)))) | refine nxt ?_ | refine zqu (by (simp (disch := omega) only [go_sem, Nat.reduceBEq]); rfl) rfl ?_ | (refine hK _ ?_; clear hK K))
 all_goals exact z04 rfl
theorem zul (a b : T) (ha : zf4 a = true) (hb : zf4 b = true) : PC prog 7 [z1n a, z1n b] (.bool (zot a 30 && zot b 30)) := by
 have c1 := zwd a ha 30 (by decide) (by decide)
 have c2 := zwd b hb 30 (by decide) (by decide)
 refine z3l 1 (by simp only [pureD.pureL, z0n, Bool.and_self]) rfl (z2o [] func7 rfl (by decide +kernel) rfl ?_)
 show awp _ _ (Code.seq _ _) _ _
 cases h1 : zot a 30 <;> cases h2 : zot b 30
 all_goals
  rw [h1] at c1
  rw [h2] at c2
  repeat' (first | ((first | refine zqh fun K hK => ?_ | refine zqs (c1) ?_ | refine zqs (c2) ?_); (simp (disch := omega) only [go_sem, Nat.reduceBEq, ↓reduceIte, Nat.reduceAdd, Nat.reduceLeDiff])) | refine nxt ?_ | refine zqu (by simp only [go_sem]; rfl) rfl ?_ | (refine hK _ ?_; clear hK K))
  exact z04 rfl
namespace Tr
def zr4 (x : T) : List Wd := x.head ++ x.words
def zar (t : T) : List Wd := (nodesT t).flatMap zr4
theorem zxi (t : T) : zar t = zr4 t ++ t.kids.flatMap zar := by
 unfold zar
 rw [z17, List.flatMap_cons, List.flatMap_def (f := nodesT), <- List.flatMap_def, List.flatMap_assoc]
theorem zr5 (x : T) : (zr4 x).length = zjl x := by unfold zr4 zjl; rw [List.length_append]
theorem zkb (t : T) : (zar t).length = z3k t := by
 unfold zar z3k
 rw [List.length_flatMap]
 exact congrArg List.sum (List.map_congr_left fun x _ => zr5 x)
theorem zr6 (t : T) : z3k t = zjl t + (t.kids.map z3k).sum := by unfold z3k; rw [z9i]
theorem znj {t k : T} (h : k ∈ t.kids) : z3k k <= z3k t := by
 obtain ⟨l, r, e⟩ := List.append_of_mem h
 rw [zr6 t, e, List.map_append, List.map_cons, List.sum_append, List.sum_cons]; omega
theorem zuh (l : List T) (i : Nat) : ((l.take i).flatMap zar).length <= (l.flatMap zar).length := by
 have e := congrArg (fun q => (q.flatMap zar).length) (List.take_append_drop i l)
 simp only [List.flatMap_append, List.length_append] at e
 omega
end Tr
theorem zui (t : T) (hs : szB t = true) : OC prog 29 [z1n t] [.row 83 (zr4 t).length ((zr4 t).flatMap z6y)] (.osl 0 (zr4 t).length) := by
 obtain ⟨h0, h1, g1, h2, g2, h3, h4⟩ := (z4i t).1 hs
 refine zca (by simp only [pureD.pureL, z0n, Bool.and_self]) rfl (fun o ho => by rw [List.mem_singleton] at ho; subst ho; exact z0y (fun _ => rfl) _) (z2o [3, 3000005, 6, 3000008, 9] func29 rfl (by decide +kernel) rfl ?_)
 show awp _ _ (Code.seq _ _) _ _
 repeat' (first | ((first | refine zqh fun K hK => ?_ | refine zqe (by decide +kernel) fun K hK => ?_); (simp (disch := omega) only [go_sem, Nat.reduceBEq, Nat.reduceEqDiff, ↓reduceIte, reduceCtorEq, Nat.reduceAdd, Nat.reduceMul, z1x, z5u])) | refine nxt ?_ | refine zqu (by simp only [go_sem]; rfl) rfl ?_ | (refine hK _ ?_; clear hK K))
 exact ⟨fun _ => 1, by (intro i j hi hj _; simp only [List.length_cons, List.length_nil] at hi hj; omega), by (simp (disch := omega) only [go_sem, Nat.reduceBEq, zr4, List.length_append, renD]), fun j hj => by
  simp only [List.length_cons, List.length_nil] at hj
  obtain rfl : j = 0 := by omega
  simp (disch := omega) only [go_sem, Nat.reduceBEq, zr4, List.length_append, List.flatMap_append]⟩
theorem zlt : ∀ t : T, szB t = true -> z3k t <= 1000000000 -> PC prog 14 [z1n t] (z1x (zar t)) := by
 refine z6x fun t ih hs hc => ?_
 obtain ⟨h0, h1, g1, h2, g2, h3, h4⟩ := (z4i t).1 hs
 have c0 := zui t hs
 have hl0 := zr5 t
 have hle := zkb t
 have heq := zxi t
 have hq : (zr4 t).length + (t.kids.flatMap zar).length <= 1000000000 := by
  have e := congrArg List.length heq
  rw [List.length_append] at e; omega
 rw [heq]
 clear hl0 heq
 generalize zr4 t = w0 at *
 refine z3l 2 (by simp only [pureD.pureL, z0n, Bool.and_self]) (z1t _) (z2o [] func14 rfl (by decide +kernel) rfl ?_)
 show awp _ _ (Code.seq _ _) _ _
 repeat' (first | refine nxt ?_ | ((first | refine zqh fun K hK => ?_ | refine z9k (c0) ?_); (simp (disch := omega) only [go_sem, Nat.reduceBEq, ↓reduceIte, Nat.reduceAdd, Nat.reduceLeDiff])) | (refine hK _ ?_; clear hK K))
 (refine z8h (fun U st => ∃ (i : _), U = t.kids.length - i /\ st.t 1 = .ptr 0 0 /\ st.t 3 = .osl 1 (w0 ++ (t.kids.take i).flatMap zar).length /\ st.t 4 = .int .i64 i /\ st.H 0 = some (.box 27 (z08 t)) /\ st.H 1 = some (.row 83 (w0 ++ (t.kids.take i).flatMap zar).length ((w0 ++ (t.kids.take i).flatMap zar).flatMap z6y)) /\ (i <= t.kids.length) /\ (2 <= st.nx)) ?_ ?_); rotate_left; (rintro U st ⟨i, rfl, q1, q3, q4, qH0, qH1, qp0, qp1⟩); rotate_left
 ·(refine ⟨_, 0, rfl, ?_⟩); (simp (disch := omega) only [go_sem, Nat.reduceBEq, Nat.reduceLeDiff, and_self, Int.natCast_zero, List.flatMap_nil, List.append_nil])
  try simp
 have hin := fun (h : i < t.kids.length) => ih t.kids[i] (List.getElem_mem h) (h4 _ (List.getElem_mem h)) (by have := znj (List.getElem_mem h); omega)
 have hb := zuh t.kids (i + 1)
 by_cases hi : i < t.kids.length
 ·have htk : (t.kids.take (i + 1)).flatMap zar = (t.kids.take i).flatMap zar ++ zar t.kids[i] := by
   rw [List.take_succ_eq_append_getElem hi, List.flatMap_append]; simp
  have hls := congrArg List.length htk
  rw [List.length_append] at hls
  have hla := (List.length_append : (w0 ++ (t.kids.take i).flatMap zar).length = _)
  have hc0 := hin hi
  have hap : w0 ++ (t.kids.take (i + 1)).flatMap zar = (w0 ++ (t.kids.take i).flatMap zar) ++ zar t.kids[i] := by rw [htk, List.append_assoc]
  generalize w0 ++ (t.kids.take i).flatMap zar = W at *
  generalize zar t.kids[i] = w1 at *
  repeat' (first | refine nxt ?_ | ((first | refine zqh fun K hK => ?_ | refine zqr fun K hK => ?_ | refine zqs (hc0) ?_); (simp (disch := omega) only [go_sem, Nat.reduceBEq, ↓reduceIte, reduceCtorEq, Nat.reduceAdd, q1, q3, q4, qH0, qH1, z0t, z1x, z5u])) | (refine zqd _ rfl ?_ ?_ <;> intro hc <;> (((try simp only [z0e] at hc); (try omega)))) | (refine hK _ ?_; clear hK K))
  (refine Exists.intro _ (And.intro ?_ ⟨i + 1, rfl, ?_⟩)); rotate_left; (simp (disch := omega) only [go_sem, Nat.reduceBEq, q1, q3, q4, qH0, qH1, true_and, Int.natCast_add, Int.natCast_one, List.flatMap_append, hap, List.length_append, List.flatMap_append]); rotate_left
  ·omega
  ·omega
 ·have hW : w0 ++ t.kids.flatMap zar = w0 ++ (t.kids.take i).flatMap zar := by rw [show i = t.kids.length by omega, List.take_length]
  rw [hW]
  clear hW
  generalize w0 ++ (t.kids.take i).flatMap zar = W at *
  repeat' (first | refine nxt ?_ | ((refine zqh fun K hK => ?_); (simp (disch := omega) only [go_sem, Nat.reduceBEq, ↓reduceIte, reduceCtorEq, Nat.reduceAdd, q1, q3, q4, qH0, z0t])) | (refine zqd _ rfl ?_ ?_ <;> intro hc <;> (((try simp only [z0e] at hc); (try omega)))) | refine zqz ?_ | refine zqu (by simp only [go_sem]; rfl) rfl ?_ | (refine hK _ ?_; clear hK K))
  refine zbh (z29 0 ?_ zhf zl2 (fun _ => rfl) (fun _ => rfl))
  simp (disch := omega) only [go_sem, qH1]
end
end Go.Proofs.YtfechgagcgbldaaDoor
namespace Go.Proofs.YtfechgagcgbldaaDoor.Tr
open Abs
theorem zif (a b : List ByteArray) : (z3n a b).length <= a.length + b.length := by
 have h := zgh (ga := stW 2) (gb := stW 1) (gs := fun s _ => stW 0 s) (Lcs.pairs a b) 0 0 (zau _ 0 0 (z71 a b) (Nat.zero_le _) (Nat.zero_le _))
 unfold z3n
 omega
theorem zap (l : List Wd) : (txt l).length = l.length := by unfold txt; rw [List.length_map]
theorem zxe (B : T) : ∀ u : T, szB u = true -> zza (z53 B u) = true := by
 refine z6x fun u ih hs => ?_
 obtain ⟨h0, h1, g1, h2, g2, h3, h4⟩ := (z4i u).1 hs
 rw [zg9]
 split
 ·rfl
 ·rw [zhg]
  refine ⟨h0, Nat.zero_le _, ?_, ?_, ?_, fun k O => ?_⟩
  ·show ((txt u.head).map (stW 2)).length <= _; rw [List.length_map, zap]; omega
  ·show ((txt u.words).map (stW 2)).length <= _; rw [List.length_map, zap]; omega
  ·show (u.kids.map (z53 B)).length <= _; rw [List.length_map]; omega
  ·obtain ⟨y, hy, rfl⟩ := List.mem_map.1 (show k ∈ u.kids.map (z53 B) from O)
   exact ih y hy (h4 y hy)
theorem zxf {A : T} (hA : szB A = true) (i : Idv) : szB (findR i A).1 = true := by
 cases h : z23 i A with
 | true => exact zg3 A hA _ (z2i (id := i) (u := A) h)
 | false =>
  have : (findR i A).1 = T.zero := by
   unfold z23 findR at h
   unfold findR
   split at h
   ·cases h
   ·rfl
  rw [this]; decide +kernel
theorem zuc {A B : T} {mv : Idv -> Bool} (hA : szB A = true) : ∀ u : T, szB u = true -> zza (z4g A B mv u) = true := by
 refine z6x fun u ih hs => ?_
 obtain ⟨h0, h1, g1, h2, g2, h3, h4⟩ := (z4i u).1 hs
 obtain ⟨x0, x1, y1, x2, y2, x3, x4⟩ := (z4i _).1 (zxf hA u.id)
 rw [zd0, zhg]
 refine ⟨h0, ?_, ?_, ?_, ?_, fun k O => ?_⟩
 ·show (if _ then _ else ByteArray.empty).size <= _
  split
  ·exact x0
  ·exact Nat.zero_le _
 ·refine Nat.le_trans (zif _ _) ?_; rw [zap, zap]; omega
 ·refine Nat.le_trans (zif _ _) ?_; rw [zap, zap]; omega
 ·show (mg _ _ _ _).length <= _
  rw [(zak _ _ _ _).length_eq, List.length_append, List.length_map, List.length_map, List.length_map]
  have := List.length_filter_le (fun x : T => !stayB A B mv x.id) (findR u.id A).1.kids
  omega
 ·have O : k ∈ mg (stayB A B mv) (z53 B) (findR u.id A).1.kids (u.kids.map fun k => (k.id, z4g A B mv k)) := O
  rw [(zak _ _ _ _).mem_iff, List.mem_append, List.map_map] at O
  rcases O with O | O
  ·obtain ⟨y, hy, rfl⟩ := List.mem_map.1 O
   exact zxe B y (x4 y (List.mem_filter.1 hy).1)
  ·obtain ⟨y, hy, rfl⟩ := List.mem_map.1 O
   exact ih y hy (h4 y hy)
theorem zq7 {A B : T} (hA : szB A = true) (hB : szB B = true) : zza (z79 A B) = true := zuc hA B hB
end Go.Proofs.YtfechgagcgbldaaDoor.Tr
namespace Go.Proofs.YtfechgagcgbldaaDoor
open _root_.Go.Proofs.Tryd
section
open Abs Facts Tr
attribute [local irreducible] awp
set_option maxRecDepth 100000
namespace Tr
theorem zlr {A : T} (h : z3r A = true) (hc : cntT A <= 1000000) : z3k A <= 512000000 := by
 have key : ∀ l : List T, (∀ x ∈ l, zjl x <= 512) -> (l.map zjl).sum <= 512 * l.length := by
  intro l
  induction l with
  | nil => intro _; exact Nat.le_refl _
  | cons x l ih =>
   intro hl
   have h1 := hl x (List.mem_cons_self ..)
   have h2 := ih fun y hy => hl y (List.mem_cons_of_mem _ hy)
   rw [List.map_cons, List.sum_cons, List.length_cons]
   omega
 have h3 := key (nodesT A) fun x hx => by
  obtain ⟨_, h4, _⟩ := z65 h hx
  unfold zjl; omega
 have h5 : (nodesT A).length = cntT A := rfl
 unfold z3k
 omega
theorem zka {A B : T} (h : z9g A B = true) : wtT (wS 2) (z79 B A) = wtT (wS 1) (z79 A B) /\ wtT (wS 1) (z79 B A) = wtT (wS 2) (z79 A B) /\ wtT (wS 1) (z79 A B) + z3k A = wtT (wS 2) (z79 A B) + z3k B /\ wtT (wS 1) (z79 A B) <= z3k B /\ wtT (wS 2) (z79 A B) <= z3k A := by
 have h2 : z9g B A = true := by rw [zg5]; exact h
 obtain ⟨ba, bb, _⟩ := (zaj A B).1 h
 have c1 := zsu (zcz h)
 have c2 := zsu (zcz h2)
 have c3 := zoi ((z1g A).1 ba).2.2 ((z1g B).1 bb).2.2 (fun x hx => (z65 ba hx).2.1) (fun x hx => (z65 bb hx).2.1)
 unfold z79
 omega
end Tr
theorem zr3 {t : T} {most : Int} (h0 : 0 <= most) (h1 : most <= 1000) (h : zot t most = true) : Fit50 t := by
 obtain ⟨a, b, c⟩ := z016 h0 h1 h
 exact ⟨a, by omega, by omega⟩
theorem zil (a b : T) (hfa : zf4 a = true) (hfb : zf4 b = true) : PC prog 4 [z1n a, z1n b] (.bool true) := by
 have c1 := znm
 have c2 := zul a b hfa hfb
 refine z3l 1 (by simp only [pureD.pureL, z0n, Bool.and_self]) rfl (z2o [3000062, 5000063, 3000065, 5000066] func4 rfl (by decide +kernel) rfl ?_)
 show awp _ _ (Code.seq _ _) _ _
 cases h : zot a 30 && zot b 30
 ·rw [h] at c2
  repeat' (first | refine nxt ?_ | ((first | refine zqh fun K hK => ?_ | refine zqs (c1) ?_ | refine zqs (c2) ?_); (simp (disch := omega) only [go_sem, Nat.reduceBEq, ↓reduceIte, Nat.reduceAdd, Nat.reduceLeDiff])) | (refine zqd _ rfl ?_ ?_ <;> intro hc <;> (first | (cases hc; done) | ((try simp only [] at hc); (try omega)))) | refine zqu (by simp only [go_sem]; rfl) rfl ?_ | (refine hK _ ?_; clear hK K))
  exact z04 rfl
 ·rw [h] at c2
  rw [Bool.and_eq_true] at h
  have fa := zr3 (by omega) (by omega) h.1
  have fb := zr3 (by omega) (by omega) h.2
  have c3 := zgj a b fa fb
  have c4 := zgj b a fb fa
  cases hc : z9g a b
  ·have e1 : z8j a b = (TT.zero, 1) := by unfold z8j; rw [if_neg (by rw [hc]; decide)]
   have e2 : z8j b a = (TT.zero, 1) := by unfold z8j; rw [if_neg (by rw [zg5, hc]; decide)]
   rw [e1] at c3
   rw [e2] at c4
   repeat' (first | refine nxt ?_ | ((first | refine zqh fun K hK => ?_ | refine zqs (c1) ?_ | refine zqs (c2) ?_ | refine zqs (c3) ?_ | refine zqs (c4) ?_); (simp (disch := omega) only [go_sem, Nat.reduceBEq, ↓reduceIte, Nat.reduceAdd, Nat.reduceLeDiff, Int.reduceEq])) | (refine zqd _ rfl ?_ ?_ <;> intro hc <;> (first | (cases hc; done) | ((try simp only [] at hc); (try omega)))) | refine zqu (by simp only [go_sem]; rfl) rfl ?_ | (refine hK _ ?_; clear hK K))
   exact z04 rfl
  ·have e1 : z8j a b = (z79 a b, 0) := by unfold z8j; rw [if_pos hc]
   have e2 : z8j b a = (z79 b a, 0) := by unfold z8j; rw [if_pos (by rw [zg5]; exact hc)]
   rw [e1] at c3
   rw [e2] at c4
   obtain ⟨k1, k2, k3, k4, k5⟩ := zka hc
   obtain ⟨ba, bb, _⟩ := (zaj a b).1 hc
   have b1 := zlr ba fa.cnt
   have b2 := zlr bb fb.cnt
   have c5 := zfq (z79 a b) (zq7 fa.sz fb.sz) (by omega) (by omega)
   have c6 := zfq (z79 b a) (zq7 fb.sz fa.sz) (by omega) (by omega)
   rw [k1, k2] at c6
   have c7 := zlt a fa.sz (by omega)
   have c8 := zlt b fb.sz (by omega)
   have l1 := zkb a
   have l2 := zkb b
   generalize zar a = wa at c7 l1
   generalize zar b = wb at c8 l2
   generalize wtT (wS 1) (z79 a b) = n at *
   generalize wtT (wS 2) (z79 a b) = m at *
   repeat' (first | refine nxt ?_ | ((first | refine zqh fun K hK => ?_ | refine zqe (by decide +kernel) fun K hK => ?_ | refine zqs (c1) ?_ | refine zqs (c2) ?_ | refine zqs (c3) ?_ | refine zqs (c4) ?_ | refine zqs (c5) ?_ | refine zqs (c6) ?_ | refine zqt (c7) ?_ | refine zqt (c8) ?_); (simp (disch := omega) only [go_sem, Nat.reduceBEq, Nat.reduceEqDiff, ↓reduceIte, Nat.reduceAdd, Nat.reduceLeDiff, z1x])) | (refine zqd _ rfl ?_ ?_ <;> intro hc <;> (first | (cases hc; done) | ((try simp only [] at hc); (try omega)))) | refine zqu (by simp only [go_sem]; rfl) rfl ?_ | (refine hK _ ?_; clear hK K))
   exact z04 (decide_eq_true (by omega))
end
end Go.Proofs.YtfechgagcgbldaaDoor
