import Derived.Test.YtkhjpcmpljpmjaaGreatDoorLeaves
import Derived.Test.YtkhjpcmpljpmjaaGreatDoorGlues
set_option maxRecDepth 100000
set_option maxHeartbeats 8000000
set_option linter.unusedSimpArgs false
set_option linter.unusedVariables false
/-
 The walk of TreeeditLeavesRest. No condition but lengths.
-/
namespace Go.Proofs.YtkhjpcmpljpmjaaGreatDoor
open Abs Facts Tr
attribute [local irreducible] awp
set_option maxRecDepth 100000
theorem typed_u8 {P : Program} {n : Nat} {t : TypeId} {ds : List D} (hu : P.underlying t = some (.int .u8)) (h : Typed P n t ds) : ∃ i : Int, ds = [.int .u8 i] ∧ 0 ≤ i ∧ i ≤ 255 := by
 cases n with
 | zero => cases h
 | succ n =>
  simp only [Typed, hu] at h
  obtain ⟨i, h1, h2⟩ := h
  refine ⟨i, h1, ?_⟩
  simp only [Lit.wf, Bool.and_eq_true, decide_eq_true_eq] at h2
  exact h2
def S8 : List TypeId := [5]
theorem closedS8 : closedB Tryz.prog S8 = true := by decide +kernel
section
open Go.ChangeShapes Go.WideShapes Go.ChangeAt Go.RowKit
variable {H : Type} {enc : TypeId × Value → H} {W : World} {base : Nat} {r : Reach} {b0 : Nat} {spare : Nat → Bool} {held : Bool} {v : Value} {d : DataW H} {p : List MemPlace}
theorem rd_u8 (hv : Value.okWide Tryz.prog W r b0 5 v) (h : DataW.Trod enc Tryz.prog W base spare held 5 v d p) : ∃ i : Int, (0 ≤ i ∧ i ≤ 255) ∧ rel (readS W) (.int .u8 i) v := by
 obtain ⟨n, rfl⟩ := okWide_int Tryz.underlying5 hv
 obtain ⟨m, d', ht, hr⟩ := one_arg closedS8 (by decide) (by kernel_rfl) rfl h
 obtain ⟨i, he, h1⟩ := typed_u8 Tryz.underlying5 ht
 cases he
 exact ⟨i, h1, hr⟩
end
theorem pc_alone8 (t : T) : PC Tryz.prog 30 [encU t] (encU (aloneT t)) := by
 refine zqzd 1 (by simp only [pureD.pureL, pure_encU, pureD, Bool.and_self]) (pure_encU _) (zqze [] Tryz.func30 rfl (by decide +kernel) mixed (by decide +kernel) (by simp [Tryz.ntmps30]) ?_)
 show awp _ _ (Code.seq _ _) _ _
 rw [show Tryz.f30.results.toList = [.cell 2 27] from rfl]
 rw [show encU t = .agg _ from by rw [encU, cellsU_eq]]
 skip
 repeat' (first | refine zqj ?_ | ((first | refine zqh fun K hK => ?_ | refine zqe (by decide +kernel) fun K hK => ?_ | refine zqr fun K hK => ?_ | refine zqq (by decide +kernel) fun K hK => ?_); (simp (disch := omega) only [go_sem, Nat.reduceBEq, Nat.reduceBeqDiff, Nat.reduceEqDiff, ↓reduceIte, reduceCtorEq, Nat.reduceAdd, Nat.reduceMul, Nat.reduceLeDiff, Nat.reduceLT, Int.reduceLT, Int.reduceLE, Int.reduceEq])) | ((first | refine zqd _ rfl (fun hc => ?_) (fun hc => ?_) | refine zqm _ rfl (fun hc => ?_) (fun hc => ?_)) <;> (first | (cases hc; done) | ((try simp only [boolS] at hc); (try (exfalso; omega))))) | refine zqa ?_ | refine zqi ?_ | refine zqb ?_ | refine zqg ?_ | refine zqc ?_ | refine zqk ?_ | refine zql ?_ | refine zqn ?_ | refine zqv ?_ | refine zqw ?_ | refine zqx ?_ | refine zqy ?_ | refine zqz ?_ | refine zqza rfl ?_ | refine zqzb ?_ | refine zqp ?_ | refine zqo ?_ | refine zqu (by (simp (disch := omega) only [go_sem, Nat.reduceBEq, Nat.reduceBeqDiff, Nat.reduceEqDiff, ↓reduceIte, reduceCtorEq, Nat.reduceAdd, Nat.reduceLeDiff, Nat.reduceLT]); rfl) rfl ?_ | (refine hK _ ?_; clear hK K) | (refine zqf (fun hb => ?_) (fun hb => ?_) <;> (have hb2 := hb; try simp only [boolS] at hb2) <;> ((first | have hb3 : (_ : Bool) = _ := hb2 | have hb3 := eq_false hb2 | have hb3 := eq_true hb2); (simp (disch := omega) only [go_sem, Nat.reduceBEq, Nat.reduceBeqDiff, Nat.reduceEqDiff, ↓reduceIte, reduceCtorEq, Nat.reduceAdd, Nat.reduceMul, Nat.reduceLeDiff, Nat.reduceLT, Int.reduceLT, Int.reduceLE, Int.reduceEq, hb, hb3]); clear hb hb3; (try (exfalso; omega)))) | (exfalso; omega))
 refine fin_pure ?_ ?_
 ·simp only [pureD, pureD.pureL, pure_encWs, Bool.and_self]
 ·rw [encU, cellsU_eq]
  exact Le.agg ⟨Le.refl _, Le.refl _, Le.refl _, Le.refl _, Le.refl _, Le.refl _, Le.refl _, Le.nil 8, trivial⟩
theorem write_short {u : T} {id : Idv} {l : List Wd} (h : writeE u id l = 0) : ∀ w ∈ l, w.text.size ≤ 1000000 := fun w hw => by
 obtain ⟨_, _, h3, _, _⟩ := write_ok h
 unfold oddB at h3
 have := List.any_eq_false.1 h3 w hw
 simp only [Bool.not_eq_true', wordB, Bool.and_eq_true, decide_eq_true_eq, Bool.not_eq_false] at this
 omega
theorem sz_alone {t : T} (h : szB t = true) : szB (aloneT t) = true := by
 obtain ⟨h0, h1, g1, h2, g2, h3, h4⟩ := (sz_iff t).1 h
 exact (sz_iff _).2 ⟨h0, h1, g1, h2, g2, Nat.zero_le _, fun k hk => by cases hk⟩
theorem sz_if {c : Prop} [Decidable c] {a : T} (h : c → szB a = true) : szB (if c then a else T.zero) = true := by
 split
 ·exact h (by assumption)
 ·exact sz_zero
theorem leaves1 (u : T) (hfu : fitB u = true) (id parent : Idv) (i : Int) (name : ByteArray) (l : List Wd) (hl : l.length ≤ maxLen) (hw : ∀ w ∈ l, w.text.size ≤ maxLen) (kd : Int) (hkd : 0 ≤ kd ∧ kd ≤ 255) (h1 : fewB u 30 = true) (h2 : name.size ≤ 60) (h3 : l.length ≤ 60) (h4 : standsT u = true) (hk : kd.tmod 4 = 1) :
  PC Tryz.prog 8 [encU u, encId id, encId parent, .int .i64 i, .str name, encWs l, .int .u8 kd] (.bool true) := by
 have ha := pc_awake8
 have hf1 := pc_Few u hfu 30 (by omega) (by omega)
 refine zqzd 1 (by simp only [pureD.pureL, pure_encU, pure_encWs, pureD, Bool.and_self]; rfl) rfl (zqze [] Tryz.func8 rfl (by decide +kernel) mixed (by decide +kernel) (by simp [Tryz.ntmps8]) ?_)
 show awp _ _ (Code.seq _ _) _ _
 skip
 rw [h1] at hf1
 obtain ⟨hsu, hcu, hdu⟩ := few_sz (by omega) (by omega) h1
 have c1 := pc_StandsR u hsu (by omega) (by omega)
 rw [h4] at c1
 have r1 := pc_Move u hsu (by omega) (by omega) id parent i
 have zv : szB (if moveE u id parent i = 0 then editT parent (insK i.toNat (findR id u).1) (wipeT id u) else T.zero) = true := sz_moveE hsu id parent i
 have hL0 : moveE u id parent i = 0 → LRP u (if moveE u id parent i = 0 then editT parent (insK i.toNat (findR id u).1) (wipeT id u) else T.zero) id [] := fun h => by rw [if_pos h]; exact lrp_moveI h
 generalize (if moveE u id parent i = 0 then editT parent (insK i.toNat (findR id u).1) (wipeT id u) else T.zero) = v at r1 zv hL0
 generalize moveE u id parent i = e at r1 hL0
 obtain ⟨gone, hgone⟩ : ∃ gone : List Idv, gone = [] := ⟨_, rfl⟩
 by_cases he0 : e = 0
 ·have hL := hL0 he0
  subst he0
  rw [← hgone] at hL
  obtain ⟨q1, q2, q3, q4⟩ := hL
  have hil := idsT_len u
  have d1 := pc_All u hsu (by omega)
  have d2 := pc_StandsR v zv (by omega) (by have := dep8 q1; omega)
  have d3 := pc_CountR v zv (by omega)
  have d4 := pc_CountR u hsu (by omega)
  rw [q1] at d2
  repeat' (first | refine zqj ?_ | ((first | refine zqh fun K hK => ?_ | refine zqe (by decide +kernel) fun K hK => ?_ | refine zqr fun K hK => ?_ | refine zqq (by decide +kernel) fun K hK => ?_ | refine zqs (ha) ?_ | refine zqt (ha) ?_ | refine zqs (hf1) ?_ | refine zqt (hf1) ?_ | refine zqs (c1) ?_ | refine zqt (c1) ?_ | refine zqs (r1) ?_ | refine zqt (r1) ?_ | refine zqs (d1) ?_ | refine zqt (d1) ?_); (simp (disch := omega) only [go_sem, Nat.reduceBEq, Nat.reduceBeqDiff, Nat.reduceEqDiff, ↓reduceIte, reduceCtorEq, Nat.reduceAdd, Nat.reduceMul, Nat.reduceLeDiff, Nat.reduceLT, Int.reduceLT, Int.reduceLE, Int.reduceEq, encIds, cellsId, encWs, hk])) | ((first | refine zqd _ rfl (fun hc => ?_) (fun hc => ?_) | refine zqm _ rfl (fun hc => ?_) (fun hc => ?_)) <;> (first | (cases hc; done) | ((try simp only [boolS] at hc); (try (exfalso; omega))))) | refine zqa ?_ | refine zqi ?_ | refine zqb ?_ | refine zqg ?_ | refine zqc ?_ | refine zqk ?_ | refine zql ?_ | refine zqn ?_ | refine zqv ?_ | refine zqw ?_ | refine zqx ?_ | refine zqy ?_ | refine zqz ?_ | refine zqza rfl ?_ | refine zqzb ?_ | refine zqp ?_ | refine zqo ?_ | refine zqu (by (simp (disch := omega) only [go_sem, Nat.reduceBEq, Nat.reduceBeqDiff, Nat.reduceEqDiff, ↓reduceIte, reduceCtorEq, Nat.reduceAdd, Nat.reduceLeDiff, Nat.reduceLT, encIds, cellsId, encWs, hk]); rfl) rfl ?_ | (refine hK _ ?_; clear hK K) | (refine zqf (fun hb => ?_) (fun hb => ?_) <;> (have hb2 := hb; try simp only [boolS] at hb2) <;> ((first | have hb3 : (_ : Bool) = _ := hb2 | have hb3 := eq_false hb2 | have hb3 := eq_true hb2); (simp (disch := omega) only [go_sem, Nat.reduceBEq, Nat.reduceBeqDiff, Nat.reduceEqDiff, ↓reduceIte, reduceCtorEq, Nat.reduceAdd, Nat.reduceMul, Nat.reduceLeDiff, Nat.reduceLT, Int.reduceLT, Int.reduceLE, Int.reduceEq, hb, hb3, encIds, cellsId, encWs, hk]); clear hb hb3; (try (exfalso; omega)))) | (exfalso; omega))
  (refine zqzc (fun mz st => ∃ (m : _), mz = (idsT u).length - m ∧ st.t 7 = .ptr 0 0 ∧ st.t 8 = .ptr 1 0 ∧ st.t 14 = .bool false ∧ st.t 15 = .ptr 3 0 ∧ st.t 17 = .mp 4 ∧ st.t 105 = encIds (idsT u) ∧ st.t 106 = .int .i64 (idsT u).length ∧ st.t 107 = .int .i64 m ∧ st.H 0 = some (.box 27 (cellsU u)) ∧ st.H 1 = some (.box 23 (cellsId id)) ∧ st.H 3 = some (.box 27 (cellsU v)) ∧ st.H 4 = some (.map (setI gone)) ∧ (m ≤ (idsT u).length) ∧ (5 ≤ st.nx)) ?_ ?_); rotate_left; (rintro mz st ⟨m, rfl, w7, w8, w14, w15, w17, w105, w106, w107, wH0, wH1, wH3, wH4, wp0, wp1⟩); rotate_left
  ·(refine ⟨_, 0, rfl, ?_⟩); (simp (disch := omega) only [go_sem, Nat.reduceBEq, Nat.reduceBeqDiff, Nat.reduceEqDiff, ↓reduceIte, reduceCtorEq, Nat.reduceAdd, Nat.reduceMul, Nat.reduceLeDiff, Nat.reduceLT, Int.reduceLT, Int.reduceLE, Int.reduceEq, true_and, and_true, and_self, Int.natCast_add, Int.natCast_one, Int.natCast_zero, List.flatMap_nil, List.map_nil, List.append_nil, List.nil_append, encIds, cellsId, hgone, setI])
   all_goals first | omega
  by_cases hm : m < (idsT u).length
  ·have hmem : (idsT u)[m] ∈ idsT u := List.getElem_mem hm
   generalize hkk : (idsT u)[m] = k at hmem
   obtain ⟨g1, g2⟩ := q4 k hmem
   have e1 := pc_FindR k u hsu
   have e2 := pc_FindR k v zv
   have e3 := pc_ParentR k u hsu
   have e4 := pc_ParentR k v zv
   have e5 := pc_alone8 (findR k u).1
   have e6 := pc_alone8 (findR k v).1
   have hfd := find_I k gone
   by_cases hgo : k ∈ gone
   ·rw [decide_eq_true hgo, Bool.not_true] at g1
    rw [if_pos hgo] at hfd
    rw [show findR k v = ((findR k v).1, false) from by rw [← g1]] at e2
    skip
    repeat' (first | refine zqj ?_ | ((first | refine zqh fun K hK => ?_ | refine zqe (by decide +kernel) fun K hK => ?_ | refine zqr fun K hK => ?_ | refine zqq (by decide +kernel) fun K hK => ?_ | refine zqs (e1) ?_ | refine zqt (e1) ?_ | refine zqs (e2) ?_ | refine zqt (e2) ?_ | refine zqs (e3) ?_ | refine zqt (e3) ?_ | refine zqs (e4) ?_ | refine zqt (e4) ?_); (simp (disch := omega) only [go_sem, Nat.reduceBEq, Nat.reduceBeqDiff, Nat.reduceEqDiff, ↓reduceIte, reduceCtorEq, Nat.reduceAdd, Nat.reduceMul, Nat.reduceLeDiff, Nat.reduceLT, Int.reduceLT, Int.reduceLE, Int.reduceEq, w7, w8, w14, w15, w17, w105, w106, w107, wH0, wH1, wH3, wH4, encIds, cellsId, hkk, hfd])) | ((first | refine zqd _ rfl (fun hc => ?_) (fun hc => ?_) | refine zqm _ rfl (fun hc => ?_) (fun hc => ?_)) <;> (first | (cases hc; done) | ((try simp only [boolS] at hc); (try (exfalso; omega))))) | refine zqa ?_ | refine zqi ?_ | refine zqb ?_ | refine zqg ?_ | refine zqc ?_ | refine zqk ?_ | refine zql ?_ | refine zqn ?_ | refine zqv ?_ | refine zqw ?_ | refine zqx ?_ | refine zqy ?_ | refine zqz ?_ | refine zqza rfl ?_ | refine zqzb ?_ | refine zqp ?_ | refine zqo ?_ | refine zqu (by (simp (disch := omega) only [go_sem, Nat.reduceBEq, Nat.reduceBeqDiff, Nat.reduceEqDiff, ↓reduceIte, reduceCtorEq, Nat.reduceAdd, Nat.reduceLeDiff, Nat.reduceLT, w7, w8, w14, w15, w17, w105, w106, w107, wH0, wH1, wH3, wH4, encIds, cellsId, hkk, hfd]); rfl) rfl ?_ | (refine hK _ ?_; clear hK K) | (refine zqf (fun hb => ?_) (fun hb => ?_) <;> (have hb2 := hb; try simp only [boolS] at hb2) <;> ((first | have hb3 : (_ : Bool) = _ := hb2 | have hb3 := eq_false hb2 | have hb3 := eq_true hb2); (simp (disch := omega) only [go_sem, Nat.reduceBEq, Nat.reduceBeqDiff, Nat.reduceEqDiff, ↓reduceIte, reduceCtorEq, Nat.reduceAdd, Nat.reduceMul, Nat.reduceLeDiff, Nat.reduceLT, Int.reduceLT, Int.reduceLE, Int.reduceEq, hb, hb3, w7, w8, w14, w15, w17, w105, w106, w107, wH0, wH1, wH3, wH4, encIds, cellsId, hkk, hfd]); clear hb hb3; (try (exfalso; omega)))) | (exfalso; omega))
    (refine Exists.intro _ (And.intro ?_ ⟨m + 1, rfl, ?_⟩)); rotate_left; (simp (disch := omega) only [go_sem, Nat.reduceBEq, Nat.reduceBeqDiff, Nat.reduceEqDiff, ↓reduceIte, reduceCtorEq, Nat.reduceAdd, Nat.reduceMul, Nat.reduceLeDiff, Nat.reduceLT, Int.reduceLT, Int.reduceLE, Int.reduceEq, w7, w8, w14, w15, w17, w105, w106, w107, wH0, wH1, wH3, wH4, true_and, and_true, and_self, Int.natCast_add, Int.natCast_one, Int.natCast_zero, List.flatMap_append, List.flatMap_cons, List.flatMap_nil, List.map_append, List.map_cons, List.map_nil, List.append_nil, List.cons_append, List.nil_append, encIds, cellsId]); rotate_left
    ·omega
    ·all_goals first | omega | exact ⟨by omega, by omega⟩
   ·rw [decide_eq_false hgo, Bool.not_false] at g1
    rw [if_neg hgo] at hfd
    have g3 := g2 g1
    by_cases hki : k = id
    ·subst hki
     skip
     repeat' (first | refine zqj ?_ | ((first | refine zqh fun K hK => ?_ | refine zqe (by decide +kernel) fun K hK => ?_ | refine zqr fun K hK => ?_ | refine zqq (by decide +kernel) fun K hK => ?_ | refine zqs (e1) ?_ | refine zqt (e1) ?_ | refine zqs (e2) ?_ | refine zqt (e2) ?_ | refine zqs (e3) ?_ | refine zqt (e3) ?_ | refine zqs (e4) ?_ | refine zqt (e4) ?_); (simp (disch := omega) only [go_sem, Nat.reduceBEq, Nat.reduceBeqDiff, Nat.reduceEqDiff, ↓reduceIte, reduceCtorEq, Nat.reduceAdd, Nat.reduceMul, Nat.reduceLeDiff, Nat.reduceLT, Int.reduceLT, Int.reduceLE, Int.reduceEq, w7, w8, w14, w15, w17, w105, w106, w107, wH0, wH1, wH3, wH4, encIds, cellsId, hkk, hfd, g1])) | ((first | refine zqd _ rfl (fun hc => ?_) (fun hc => ?_) | refine zqm _ rfl (fun hc => ?_) (fun hc => ?_)) <;> (first | (cases hc; done) | ((try simp only [boolS] at hc); (try (exfalso; omega))))) | refine zqa ?_ | refine zqi ?_ | refine zqb ?_ | refine zqg ?_ | refine zqc ?_ | refine zqk ?_ | refine zql ?_ | refine zqn ?_ | refine zqv ?_ | refine zqw ?_ | refine zqx ?_ | refine zqy ?_ | refine zqz ?_ | refine zqza rfl ?_ | refine zqzb ?_ | refine zqp ?_ | refine zqo ?_ | refine zqu (by (simp (disch := omega) only [go_sem, Nat.reduceBEq, Nat.reduceBeqDiff, Nat.reduceEqDiff, ↓reduceIte, reduceCtorEq, Nat.reduceAdd, Nat.reduceLeDiff, Nat.reduceLT, w7, w8, w14, w15, w17, w105, w106, w107, wH0, wH1, wH3, wH4, encIds, cellsId, hkk, hfd, g1]); rfl) rfl ?_ | (refine hK _ ?_; clear hK K) | (refine zqf (fun hb => ?_) (fun hb => ?_) <;> (have hb2 := hb; try simp only [boolS] at hb2) <;> ((first | have hb3 : (_ : Bool) = _ := hb2 | have hb3 := eq_false hb2 | have hb3 := eq_true hb2); (simp (disch := omega) only [go_sem, Nat.reduceBEq, Nat.reduceBeqDiff, Nat.reduceEqDiff, ↓reduceIte, reduceCtorEq, Nat.reduceAdd, Nat.reduceMul, Nat.reduceLeDiff, Nat.reduceLT, Int.reduceLT, Int.reduceLE, Int.reduceEq, hb, hb3, w7, w8, w14, w15, w17, w105, w106, w107, wH0, wH1, wH3, wH4, encIds, cellsId, hkk, hfd, g1]); clear hb hb3; (try (exfalso; omega)))) | (exfalso; omega))
     (refine Exists.intro _ (And.intro ?_ ⟨m + 1, rfl, ?_⟩)); rotate_left; (simp (disch := omega) only [go_sem, Nat.reduceBEq, Nat.reduceBeqDiff, Nat.reduceEqDiff, ↓reduceIte, reduceCtorEq, Nat.reduceAdd, Nat.reduceMul, Nat.reduceLeDiff, Nat.reduceLT, Int.reduceLT, Int.reduceLE, Int.reduceEq, w7, w8, w14, w15, w17, w105, w106, w107, wH0, wH1, wH3, wH4, true_and, and_true, and_self, Int.natCast_add, Int.natCast_one, Int.natCast_zero, List.flatMap_append, List.flatMap_cons, List.flatMap_nil, List.map_append, List.map_cons, List.map_nil, List.append_nil, List.cons_append, List.nil_append, encIds, cellsId]); rotate_left
     ·omega
     ·all_goals first | omega | exact ⟨by omega, by omega⟩
    ·obtain ⟨g4, g5⟩ := g3 hki
     have e7 := pc_Same (aloneT (findR k u).1) (sz_alone (sz_find k u hsu)) (aloneT (findR k v).1) (sz_alone (sz_find k v zv))
     rw [decide_eq_true g4] at e7
     skip
     repeat' (first | refine zqj ?_ | ((first | refine zqh fun K hK => ?_ | refine zqe (by decide +kernel) fun K hK => ?_ | refine zqr fun K hK => ?_ | refine zqq (by decide +kernel) fun K hK => ?_ | refine zqs (e1) ?_ | refine zqt (e1) ?_ | refine zqs (e2) ?_ | refine zqt (e2) ?_ | refine zqs (e3) ?_ | refine zqt (e3) ?_ | refine zqs (e4) ?_ | refine zqt (e4) ?_ | refine zqs (e5) ?_ | refine zqt (e5) ?_ | refine zqs (e6) ?_ | refine zqt (e6) ?_ | refine zqs (e7) ?_ | refine zqt (e7) ?_); (simp (disch := omega) only [go_sem, Nat.reduceBEq, Nat.reduceBeqDiff, Nat.reduceEqDiff, ↓reduceIte, reduceCtorEq, Nat.reduceAdd, Nat.reduceMul, Nat.reduceLeDiff, Nat.reduceLT, Int.reduceLT, Int.reduceLE, Int.reduceEq, w7, w8, w14, w15, w17, w105, w106, w107, wH0, wH1, wH3, wH4, encIds, cellsId, hkk, hfd, g1, g5, hki])) | ((first | refine zqd _ rfl (fun hc => ?_) (fun hc => ?_) | refine zqm _ rfl (fun hc => ?_) (fun hc => ?_)) <;> (first | (cases hc; done) | ((try simp only [boolS] at hc); (try (exfalso; omega))))) | refine zqa ?_ | refine zqi ?_ | refine zqb ?_ | refine zqg ?_ | refine zqc ?_ | refine zqk ?_ | refine zql ?_ | refine zqn ?_ | refine zqv ?_ | refine zqw ?_ | refine zqx ?_ | refine zqy ?_ | refine zqz ?_ | refine zqza rfl ?_ | refine zqzb ?_ | refine zqp ?_ | refine zqo ?_ | refine zqu (by (simp (disch := omega) only [go_sem, Nat.reduceBEq, Nat.reduceBeqDiff, Nat.reduceEqDiff, ↓reduceIte, reduceCtorEq, Nat.reduceAdd, Nat.reduceLeDiff, Nat.reduceLT, w7, w8, w14, w15, w17, w105, w106, w107, wH0, wH1, wH3, wH4, encIds, cellsId, hkk, hfd, g1, g5, hki]); rfl) rfl ?_ | (refine hK _ ?_; clear hK K) | (refine zqf (fun hb => ?_) (fun hb => ?_) <;> (have hb2 := hb; try simp only [boolS] at hb2) <;> ((first | have hb3 : (_ : Bool) = _ := hb2 | have hb3 := eq_false hb2 | have hb3 := eq_true hb2); (simp (disch := omega) only [go_sem, Nat.reduceBEq, Nat.reduceBeqDiff, Nat.reduceEqDiff, ↓reduceIte, reduceCtorEq, Nat.reduceAdd, Nat.reduceMul, Nat.reduceLeDiff, Nat.reduceLT, Int.reduceLT, Int.reduceLE, Int.reduceEq, hb, hb3, w7, w8, w14, w15, w17, w105, w106, w107, wH0, wH1, wH3, wH4, encIds, cellsId, hkk, hfd, g1, g5, hki]); clear hb hb3; (try (exfalso; omega)))) | (exfalso; omega))
     (refine Exists.intro _ (And.intro ?_ ⟨m + 1, rfl, ?_⟩)); rotate_left; (simp (disch := omega) only [go_sem, Nat.reduceBEq, Nat.reduceBeqDiff, Nat.reduceEqDiff, ↓reduceIte, reduceCtorEq, Nat.reduceAdd, Nat.reduceMul, Nat.reduceLeDiff, Nat.reduceLT, Int.reduceLT, Int.reduceLE, Int.reduceEq, w7, w8, w14, w15, w17, w105, w106, w107, wH0, wH1, wH3, wH4, true_and, and_true, and_self, Int.natCast_add, Int.natCast_one, Int.natCast_zero, List.flatMap_append, List.flatMap_cons, List.flatMap_nil, List.map_append, List.map_cons, List.map_nil, List.append_nil, List.cons_append, List.nil_append, encIds, cellsId]); rotate_left
     ·omega
     ·all_goals first | omega | exact ⟨by omega, by omega⟩
  ·have hme : m = (idsT u).length := by omega
   subst hme
   have hsl : (setI gone).length = gone.length := by unfold setI; simp
   skip
   repeat' (first | refine zqj ?_ | ((first | refine zqh fun K hK => ?_ | refine zqe (by decide +kernel) fun K hK => ?_ | refine zqr fun K hK => ?_ | refine zqq (by decide +kernel) fun K hK => ?_ | refine zqs (ha) ?_ | refine zqt (ha) ?_ | refine zqs (d2) ?_ | refine zqt (d2) ?_ | refine zqs (d3) ?_ | refine zqt (d3) ?_ | refine zqs (d4) ?_ | refine zqt (d4) ?_); (simp (disch := omega) only [go_sem, Nat.reduceBEq, Nat.reduceBeqDiff, Nat.reduceEqDiff, ↓reduceIte, reduceCtorEq, Nat.reduceAdd, Nat.reduceMul, Nat.reduceLeDiff, Nat.reduceLT, Int.reduceLT, Int.reduceLE, Int.reduceEq, w7, w8, w14, w15, w17, w105, w106, w107, wH0, wH1, wH3, wH4, encIds, cellsId, hsl])) | ((first | refine zqd _ rfl (fun hc => ?_) (fun hc => ?_) | refine zqm _ rfl (fun hc => ?_) (fun hc => ?_)) <;> (first | (cases hc; done) | ((try simp only [boolS] at hc); (try (exfalso; omega))))) | refine zqa ?_ | refine zqi ?_ | refine zqb ?_ | refine zqg ?_ | refine zqc ?_ | refine zqk ?_ | refine zql ?_ | refine zqn ?_ | refine zqv ?_ | refine zqw ?_ | refine zqx ?_ | refine zqy ?_ | refine zqz ?_ | refine zqza rfl ?_ | refine zqzb ?_ | refine zqp ?_ | refine zqo ?_ | refine zqu (by (simp (disch := omega) only [go_sem, Nat.reduceBEq, Nat.reduceBeqDiff, Nat.reduceEqDiff, ↓reduceIte, reduceCtorEq, Nat.reduceAdd, Nat.reduceLeDiff, Nat.reduceLT, w7, w8, w14, w15, w17, w105, w106, w107, wH0, wH1, wH3, wH4, encIds, cellsId, hsl]); rfl) rfl ?_ | (refine hK _ ?_; clear hK K) | (refine zqf (fun hb => ?_) (fun hb => ?_) <;> (have hb2 := hb; try simp only [boolS] at hb2) <;> ((first | have hb3 : (_ : Bool) = _ := hb2 | have hb3 := eq_false hb2 | have hb3 := eq_true hb2); (simp (disch := omega) only [go_sem, Nat.reduceBEq, Nat.reduceBeqDiff, Nat.reduceEqDiff, ↓reduceIte, reduceCtorEq, Nat.reduceAdd, Nat.reduceMul, Nat.reduceLeDiff, Nat.reduceLT, Int.reduceLT, Int.reduceLE, Int.reduceEq, hb, hb3, w7, w8, w14, w15, w17, w105, w106, w107, wH0, wH1, wH3, wH4, encIds, cellsId, hsl]); clear hb hb3; (try (exfalso; omega)))) | (exfalso; omega))
   all_goals first | exact fin_bool (decide_eq_true (by omega)) | exact fin_bool rfl
 ·skip
  repeat' (first | refine zqj ?_ | ((first | refine zqh fun K hK => ?_ | refine zqe (by decide +kernel) fun K hK => ?_ | refine zqr fun K hK => ?_ | refine zqq (by decide +kernel) fun K hK => ?_ | refine zqs (ha) ?_ | refine zqt (ha) ?_ | refine zqs (hf1) ?_ | refine zqt (hf1) ?_ | refine zqs (c1) ?_ | refine zqt (c1) ?_ | refine zqs (r1) ?_ | refine zqt (r1) ?_); (simp (disch := omega) only [go_sem, Nat.reduceBEq, Nat.reduceBeqDiff, Nat.reduceEqDiff, ↓reduceIte, reduceCtorEq, Nat.reduceAdd, Nat.reduceMul, Nat.reduceLeDiff, Nat.reduceLT, Int.reduceLT, Int.reduceLE, Int.reduceEq, cellsId, encWs, hk, he0])) | ((first | refine zqd _ rfl (fun hc => ?_) (fun hc => ?_) | refine zqm _ rfl (fun hc => ?_) (fun hc => ?_)) <;> (first | (cases hc; done) | ((try simp only [boolS] at hc); (try (exfalso; omega))))) | refine zqa ?_ | refine zqi ?_ | refine zqb ?_ | refine zqg ?_ | refine zqc ?_ | refine zqk ?_ | refine zql ?_ | refine zqn ?_ | refine zqv ?_ | refine zqw ?_ | refine zqx ?_ | refine zqy ?_ | refine zqz ?_ | refine zqza rfl ?_ | refine zqzb ?_ | refine zqp ?_ | refine zqo ?_ | refine zqu (by (simp (disch := omega) only [go_sem, Nat.reduceBEq, Nat.reduceBeqDiff, Nat.reduceEqDiff, ↓reduceIte, reduceCtorEq, Nat.reduceAdd, Nat.reduceLeDiff, Nat.reduceLT, cellsId, encWs, hk, he0]); rfl) rfl ?_ | (refine hK _ ?_; clear hK K) | (refine zqf (fun hb => ?_) (fun hb => ?_) <;> (have hb2 := hb; try simp only [boolS] at hb2) <;> ((first | have hb3 : (_ : Bool) = _ := hb2 | have hb3 := eq_false hb2 | have hb3 := eq_true hb2); (simp (disch := omega) only [go_sem, Nat.reduceBEq, Nat.reduceBeqDiff, Nat.reduceEqDiff, ↓reduceIte, reduceCtorEq, Nat.reduceAdd, Nat.reduceMul, Nat.reduceLeDiff, Nat.reduceLT, Int.reduceLT, Int.reduceLE, Int.reduceEq, hb, hb3, cellsId, encWs, hk, he0]); clear hb hb3; (try (exfalso; omega)))) | (exfalso; omega))
  all_goals first | exact fin_bool rfl
theorem leaves2 (u : T) (hfu : fitB u = true) (id parent : Idv) (i : Int) (name : ByteArray) (l : List Wd) (hl : l.length ≤ maxLen) (hw : ∀ w ∈ l, w.text.size ≤ maxLen) (kd : Int) (hkd : 0 ≤ kd ∧ kd ≤ 255) (h1 : fewB u 30 = true) (h2 : name.size ≤ 60) (h3 : l.length ≤ 60) (h4 : standsT u = true) (hk : kd.tmod 4 = 2) :
  PC Tryz.prog 8 [encU u, encId id, encId parent, .int .i64 i, .str name, encWs l, .int .u8 kd] (.bool true) := by
 have ha := pc_awake8
 have hf1 := pc_Few u hfu 30 (by omega) (by omega)
 refine zqzd 1 (by simp only [pureD.pureL, pure_encU, pure_encWs, pureD, Bool.and_self]; rfl) rfl (zqze [] Tryz.func8 rfl (by decide +kernel) mixed (by decide +kernel) (by simp [Tryz.ntmps8]) ?_)
 show awp _ _ (Code.seq _ _) _ _
 skip
 rw [h1] at hf1
 obtain ⟨hsu, hcu, hdu⟩ := few_sz (by omega) (by omega) h1
 have c1 := pc_StandsR u hsu (by omega) (by omega)
 rw [h4] at c1
 have r1 := pc_Relabel u hsu (by omega) (by omega) id name (by omega)
 have zv : szB (if relE u id name = 0 then editT id (fun q => q.setLabel name) u else T.zero) = true := (sz_if fun _ => sz_edit (fun q hq _ => sz_setLabel (by omega) hq) u hsu)
 have hL0 : relE u id name = 0 → LRP u (if relE u id name = 0 then editT id (fun q => q.setLabel name) u else T.zero) id [] := fun h => by rw [if_pos h]; exact lrp_label h
 generalize (if relE u id name = 0 then editT id (fun q => q.setLabel name) u else T.zero) = v at r1 zv hL0
 generalize relE u id name = e at r1 hL0
 obtain ⟨gone, hgone⟩ : ∃ gone : List Idv, gone = [] := ⟨_, rfl⟩
 by_cases he0 : e = 0
 ·have hL := hL0 he0
  subst he0
  rw [← hgone] at hL
  obtain ⟨q1, q2, q3, q4⟩ := hL
  have hil := idsT_len u
  have d1 := pc_All u hsu (by omega)
  have d2 := pc_StandsR v zv (by omega) (by have := dep8 q1; omega)
  have d3 := pc_CountR v zv (by omega)
  have d4 := pc_CountR u hsu (by omega)
  rw [q1] at d2
  repeat' (first | refine zqj ?_ | ((first | refine zqh fun K hK => ?_ | refine zqe (by decide +kernel) fun K hK => ?_ | refine zqr fun K hK => ?_ | refine zqq (by decide +kernel) fun K hK => ?_ | refine zqs (ha) ?_ | refine zqt (ha) ?_ | refine zqs (hf1) ?_ | refine zqt (hf1) ?_ | refine zqs (c1) ?_ | refine zqt (c1) ?_ | refine zqs (r1) ?_ | refine zqt (r1) ?_ | refine zqs (d1) ?_ | refine zqt (d1) ?_); (simp (disch := omega) only [go_sem, Nat.reduceBEq, Nat.reduceBeqDiff, Nat.reduceEqDiff, ↓reduceIte, reduceCtorEq, Nat.reduceAdd, Nat.reduceMul, Nat.reduceLeDiff, Nat.reduceLT, Int.reduceLT, Int.reduceLE, Int.reduceEq, encIds, cellsId, encWs, hk])) | ((first | refine zqd _ rfl (fun hc => ?_) (fun hc => ?_) | refine zqm _ rfl (fun hc => ?_) (fun hc => ?_)) <;> (first | (cases hc; done) | ((try simp only [boolS] at hc); (try (exfalso; omega))))) | refine zqa ?_ | refine zqi ?_ | refine zqb ?_ | refine zqg ?_ | refine zqc ?_ | refine zqk ?_ | refine zql ?_ | refine zqn ?_ | refine zqv ?_ | refine zqw ?_ | refine zqx ?_ | refine zqy ?_ | refine zqz ?_ | refine zqza rfl ?_ | refine zqzb ?_ | refine zqp ?_ | refine zqo ?_ | refine zqu (by (simp (disch := omega) only [go_sem, Nat.reduceBEq, Nat.reduceBeqDiff, Nat.reduceEqDiff, ↓reduceIte, reduceCtorEq, Nat.reduceAdd, Nat.reduceLeDiff, Nat.reduceLT, encIds, cellsId, encWs, hk]); rfl) rfl ?_ | (refine hK _ ?_; clear hK K) | (refine zqf (fun hb => ?_) (fun hb => ?_) <;> (have hb2 := hb; try simp only [boolS] at hb2) <;> ((first | have hb3 : (_ : Bool) = _ := hb2 | have hb3 := eq_false hb2 | have hb3 := eq_true hb2); (simp (disch := omega) only [go_sem, Nat.reduceBEq, Nat.reduceBeqDiff, Nat.reduceEqDiff, ↓reduceIte, reduceCtorEq, Nat.reduceAdd, Nat.reduceMul, Nat.reduceLeDiff, Nat.reduceLT, Int.reduceLT, Int.reduceLE, Int.reduceEq, hb, hb3, encIds, cellsId, encWs, hk]); clear hb hb3; (try (exfalso; omega)))) | (exfalso; omega))
  (refine zqzc (fun mz st => ∃ (m : _), mz = (idsT u).length - m ∧ st.t 7 = .ptr 0 0 ∧ st.t 8 = .ptr 1 0 ∧ st.t 14 = .bool false ∧ st.t 15 = .ptr 3 0 ∧ st.t 17 = .mp 4 ∧ st.t 105 = encIds (idsT u) ∧ st.t 106 = .int .i64 (idsT u).length ∧ st.t 107 = .int .i64 m ∧ st.H 0 = some (.box 27 (cellsU u)) ∧ st.H 1 = some (.box 23 (cellsId id)) ∧ st.H 3 = some (.box 27 (cellsU v)) ∧ st.H 4 = some (.map (setI gone)) ∧ (m ≤ (idsT u).length) ∧ (5 ≤ st.nx)) ?_ ?_); rotate_left; (rintro mz st ⟨m, rfl, w7, w8, w14, w15, w17, w105, w106, w107, wH0, wH1, wH3, wH4, wp0, wp1⟩); rotate_left
  ·(refine ⟨_, 0, rfl, ?_⟩); (simp (disch := omega) only [go_sem, Nat.reduceBEq, Nat.reduceBeqDiff, Nat.reduceEqDiff, ↓reduceIte, reduceCtorEq, Nat.reduceAdd, Nat.reduceMul, Nat.reduceLeDiff, Nat.reduceLT, Int.reduceLT, Int.reduceLE, Int.reduceEq, true_and, and_true, and_self, Int.natCast_add, Int.natCast_one, Int.natCast_zero, List.flatMap_nil, List.map_nil, List.append_nil, List.nil_append, encIds, cellsId, hgone, setI])
   all_goals first | omega
  by_cases hm : m < (idsT u).length
  ·have hmem : (idsT u)[m] ∈ idsT u := List.getElem_mem hm
   generalize hkk : (idsT u)[m] = k at hmem
   obtain ⟨g1, g2⟩ := q4 k hmem
   have e1 := pc_FindR k u hsu
   have e2 := pc_FindR k v zv
   have e3 := pc_ParentR k u hsu
   have e4 := pc_ParentR k v zv
   have e5 := pc_alone8 (findR k u).1
   have e6 := pc_alone8 (findR k v).1
   have hfd := find_I k gone
   by_cases hgo : k ∈ gone
   ·rw [decide_eq_true hgo, Bool.not_true] at g1
    rw [if_pos hgo] at hfd
    rw [show findR k v = ((findR k v).1, false) from by rw [← g1]] at e2
    skip
    repeat' (first | refine zqj ?_ | ((first | refine zqh fun K hK => ?_ | refine zqe (by decide +kernel) fun K hK => ?_ | refine zqr fun K hK => ?_ | refine zqq (by decide +kernel) fun K hK => ?_ | refine zqs (e1) ?_ | refine zqt (e1) ?_ | refine zqs (e2) ?_ | refine zqt (e2) ?_ | refine zqs (e3) ?_ | refine zqt (e3) ?_ | refine zqs (e4) ?_ | refine zqt (e4) ?_); (simp (disch := omega) only [go_sem, Nat.reduceBEq, Nat.reduceBeqDiff, Nat.reduceEqDiff, ↓reduceIte, reduceCtorEq, Nat.reduceAdd, Nat.reduceMul, Nat.reduceLeDiff, Nat.reduceLT, Int.reduceLT, Int.reduceLE, Int.reduceEq, w7, w8, w14, w15, w17, w105, w106, w107, wH0, wH1, wH3, wH4, encIds, cellsId, hkk, hfd])) | ((first | refine zqd _ rfl (fun hc => ?_) (fun hc => ?_) | refine zqm _ rfl (fun hc => ?_) (fun hc => ?_)) <;> (first | (cases hc; done) | ((try simp only [boolS] at hc); (try (exfalso; omega))))) | refine zqa ?_ | refine zqi ?_ | refine zqb ?_ | refine zqg ?_ | refine zqc ?_ | refine zqk ?_ | refine zql ?_ | refine zqn ?_ | refine zqv ?_ | refine zqw ?_ | refine zqx ?_ | refine zqy ?_ | refine zqz ?_ | refine zqza rfl ?_ | refine zqzb ?_ | refine zqp ?_ | refine zqo ?_ | refine zqu (by (simp (disch := omega) only [go_sem, Nat.reduceBEq, Nat.reduceBeqDiff, Nat.reduceEqDiff, ↓reduceIte, reduceCtorEq, Nat.reduceAdd, Nat.reduceLeDiff, Nat.reduceLT, w7, w8, w14, w15, w17, w105, w106, w107, wH0, wH1, wH3, wH4, encIds, cellsId, hkk, hfd]); rfl) rfl ?_ | (refine hK _ ?_; clear hK K) | (refine zqf (fun hb => ?_) (fun hb => ?_) <;> (have hb2 := hb; try simp only [boolS] at hb2) <;> ((first | have hb3 : (_ : Bool) = _ := hb2 | have hb3 := eq_false hb2 | have hb3 := eq_true hb2); (simp (disch := omega) only [go_sem, Nat.reduceBEq, Nat.reduceBeqDiff, Nat.reduceEqDiff, ↓reduceIte, reduceCtorEq, Nat.reduceAdd, Nat.reduceMul, Nat.reduceLeDiff, Nat.reduceLT, Int.reduceLT, Int.reduceLE, Int.reduceEq, hb, hb3, w7, w8, w14, w15, w17, w105, w106, w107, wH0, wH1, wH3, wH4, encIds, cellsId, hkk, hfd]); clear hb hb3; (try (exfalso; omega)))) | (exfalso; omega))
    (refine Exists.intro _ (And.intro ?_ ⟨m + 1, rfl, ?_⟩)); rotate_left; (simp (disch := omega) only [go_sem, Nat.reduceBEq, Nat.reduceBeqDiff, Nat.reduceEqDiff, ↓reduceIte, reduceCtorEq, Nat.reduceAdd, Nat.reduceMul, Nat.reduceLeDiff, Nat.reduceLT, Int.reduceLT, Int.reduceLE, Int.reduceEq, w7, w8, w14, w15, w17, w105, w106, w107, wH0, wH1, wH3, wH4, true_and, and_true, and_self, Int.natCast_add, Int.natCast_one, Int.natCast_zero, List.flatMap_append, List.flatMap_cons, List.flatMap_nil, List.map_append, List.map_cons, List.map_nil, List.append_nil, List.cons_append, List.nil_append, encIds, cellsId]); rotate_left
    ·omega
    ·all_goals first | omega | exact ⟨by omega, by omega⟩
   ·rw [decide_eq_false hgo, Bool.not_false] at g1
    rw [if_neg hgo] at hfd
    have g3 := g2 g1
    by_cases hki : k = id
    ·subst hki
     skip
     repeat' (first | refine zqj ?_ | ((first | refine zqh fun K hK => ?_ | refine zqe (by decide +kernel) fun K hK => ?_ | refine zqr fun K hK => ?_ | refine zqq (by decide +kernel) fun K hK => ?_ | refine zqs (e1) ?_ | refine zqt (e1) ?_ | refine zqs (e2) ?_ | refine zqt (e2) ?_ | refine zqs (e3) ?_ | refine zqt (e3) ?_ | refine zqs (e4) ?_ | refine zqt (e4) ?_); (simp (disch := omega) only [go_sem, Nat.reduceBEq, Nat.reduceBeqDiff, Nat.reduceEqDiff, ↓reduceIte, reduceCtorEq, Nat.reduceAdd, Nat.reduceMul, Nat.reduceLeDiff, Nat.reduceLT, Int.reduceLT, Int.reduceLE, Int.reduceEq, w7, w8, w14, w15, w17, w105, w106, w107, wH0, wH1, wH3, wH4, encIds, cellsId, hkk, hfd, g1])) | ((first | refine zqd _ rfl (fun hc => ?_) (fun hc => ?_) | refine zqm _ rfl (fun hc => ?_) (fun hc => ?_)) <;> (first | (cases hc; done) | ((try simp only [boolS] at hc); (try (exfalso; omega))))) | refine zqa ?_ | refine zqi ?_ | refine zqb ?_ | refine zqg ?_ | refine zqc ?_ | refine zqk ?_ | refine zql ?_ | refine zqn ?_ | refine zqv ?_ | refine zqw ?_ | refine zqx ?_ | refine zqy ?_ | refine zqz ?_ | refine zqza rfl ?_ | refine zqzb ?_ | refine zqp ?_ | refine zqo ?_ | refine zqu (by (simp (disch := omega) only [go_sem, Nat.reduceBEq, Nat.reduceBeqDiff, Nat.reduceEqDiff, ↓reduceIte, reduceCtorEq, Nat.reduceAdd, Nat.reduceLeDiff, Nat.reduceLT, w7, w8, w14, w15, w17, w105, w106, w107, wH0, wH1, wH3, wH4, encIds, cellsId, hkk, hfd, g1]); rfl) rfl ?_ | (refine hK _ ?_; clear hK K) | (refine zqf (fun hb => ?_) (fun hb => ?_) <;> (have hb2 := hb; try simp only [boolS] at hb2) <;> ((first | have hb3 : (_ : Bool) = _ := hb2 | have hb3 := eq_false hb2 | have hb3 := eq_true hb2); (simp (disch := omega) only [go_sem, Nat.reduceBEq, Nat.reduceBeqDiff, Nat.reduceEqDiff, ↓reduceIte, reduceCtorEq, Nat.reduceAdd, Nat.reduceMul, Nat.reduceLeDiff, Nat.reduceLT, Int.reduceLT, Int.reduceLE, Int.reduceEq, hb, hb3, w7, w8, w14, w15, w17, w105, w106, w107, wH0, wH1, wH3, wH4, encIds, cellsId, hkk, hfd, g1]); clear hb hb3; (try (exfalso; omega)))) | (exfalso; omega))
     (refine Exists.intro _ (And.intro ?_ ⟨m + 1, rfl, ?_⟩)); rotate_left; (simp (disch := omega) only [go_sem, Nat.reduceBEq, Nat.reduceBeqDiff, Nat.reduceEqDiff, ↓reduceIte, reduceCtorEq, Nat.reduceAdd, Nat.reduceMul, Nat.reduceLeDiff, Nat.reduceLT, Int.reduceLT, Int.reduceLE, Int.reduceEq, w7, w8, w14, w15, w17, w105, w106, w107, wH0, wH1, wH3, wH4, true_and, and_true, and_self, Int.natCast_add, Int.natCast_one, Int.natCast_zero, List.flatMap_append, List.flatMap_cons, List.flatMap_nil, List.map_append, List.map_cons, List.map_nil, List.append_nil, List.cons_append, List.nil_append, encIds, cellsId]); rotate_left
     ·omega
     ·all_goals first | omega | exact ⟨by omega, by omega⟩
    ·obtain ⟨g4, g5⟩ := g3 hki
     have e7 := pc_Same (aloneT (findR k u).1) (sz_alone (sz_find k u hsu)) (aloneT (findR k v).1) (sz_alone (sz_find k v zv))
     rw [decide_eq_true g4] at e7
     skip
     repeat' (first | refine zqj ?_ | ((first | refine zqh fun K hK => ?_ | refine zqe (by decide +kernel) fun K hK => ?_ | refine zqr fun K hK => ?_ | refine zqq (by decide +kernel) fun K hK => ?_ | refine zqs (e1) ?_ | refine zqt (e1) ?_ | refine zqs (e2) ?_ | refine zqt (e2) ?_ | refine zqs (e3) ?_ | refine zqt (e3) ?_ | refine zqs (e4) ?_ | refine zqt (e4) ?_ | refine zqs (e5) ?_ | refine zqt (e5) ?_ | refine zqs (e6) ?_ | refine zqt (e6) ?_ | refine zqs (e7) ?_ | refine zqt (e7) ?_); (simp (disch := omega) only [go_sem, Nat.reduceBEq, Nat.reduceBeqDiff, Nat.reduceEqDiff, ↓reduceIte, reduceCtorEq, Nat.reduceAdd, Nat.reduceMul, Nat.reduceLeDiff, Nat.reduceLT, Int.reduceLT, Int.reduceLE, Int.reduceEq, w7, w8, w14, w15, w17, w105, w106, w107, wH0, wH1, wH3, wH4, encIds, cellsId, hkk, hfd, g1, g5, hki])) | ((first | refine zqd _ rfl (fun hc => ?_) (fun hc => ?_) | refine zqm _ rfl (fun hc => ?_) (fun hc => ?_)) <;> (first | (cases hc; done) | ((try simp only [boolS] at hc); (try (exfalso; omega))))) | refine zqa ?_ | refine zqi ?_ | refine zqb ?_ | refine zqg ?_ | refine zqc ?_ | refine zqk ?_ | refine zql ?_ | refine zqn ?_ | refine zqv ?_ | refine zqw ?_ | refine zqx ?_ | refine zqy ?_ | refine zqz ?_ | refine zqza rfl ?_ | refine zqzb ?_ | refine zqp ?_ | refine zqo ?_ | refine zqu (by (simp (disch := omega) only [go_sem, Nat.reduceBEq, Nat.reduceBeqDiff, Nat.reduceEqDiff, ↓reduceIte, reduceCtorEq, Nat.reduceAdd, Nat.reduceLeDiff, Nat.reduceLT, w7, w8, w14, w15, w17, w105, w106, w107, wH0, wH1, wH3, wH4, encIds, cellsId, hkk, hfd, g1, g5, hki]); rfl) rfl ?_ | (refine hK _ ?_; clear hK K) | (refine zqf (fun hb => ?_) (fun hb => ?_) <;> (have hb2 := hb; try simp only [boolS] at hb2) <;> ((first | have hb3 : (_ : Bool) = _ := hb2 | have hb3 := eq_false hb2 | have hb3 := eq_true hb2); (simp (disch := omega) only [go_sem, Nat.reduceBEq, Nat.reduceBeqDiff, Nat.reduceEqDiff, ↓reduceIte, reduceCtorEq, Nat.reduceAdd, Nat.reduceMul, Nat.reduceLeDiff, Nat.reduceLT, Int.reduceLT, Int.reduceLE, Int.reduceEq, hb, hb3, w7, w8, w14, w15, w17, w105, w106, w107, wH0, wH1, wH3, wH4, encIds, cellsId, hkk, hfd, g1, g5, hki]); clear hb hb3; (try (exfalso; omega)))) | (exfalso; omega))
     (refine Exists.intro _ (And.intro ?_ ⟨m + 1, rfl, ?_⟩)); rotate_left; (simp (disch := omega) only [go_sem, Nat.reduceBEq, Nat.reduceBeqDiff, Nat.reduceEqDiff, ↓reduceIte, reduceCtorEq, Nat.reduceAdd, Nat.reduceMul, Nat.reduceLeDiff, Nat.reduceLT, Int.reduceLT, Int.reduceLE, Int.reduceEq, w7, w8, w14, w15, w17, w105, w106, w107, wH0, wH1, wH3, wH4, true_and, and_true, and_self, Int.natCast_add, Int.natCast_one, Int.natCast_zero, List.flatMap_append, List.flatMap_cons, List.flatMap_nil, List.map_append, List.map_cons, List.map_nil, List.append_nil, List.cons_append, List.nil_append, encIds, cellsId]); rotate_left
     ·omega
     ·all_goals first | omega | exact ⟨by omega, by omega⟩
  ·have hme : m = (idsT u).length := by omega
   subst hme
   have hsl : (setI gone).length = gone.length := by unfold setI; simp
   skip
   repeat' (first | refine zqj ?_ | ((first | refine zqh fun K hK => ?_ | refine zqe (by decide +kernel) fun K hK => ?_ | refine zqr fun K hK => ?_ | refine zqq (by decide +kernel) fun K hK => ?_ | refine zqs (ha) ?_ | refine zqt (ha) ?_ | refine zqs (d2) ?_ | refine zqt (d2) ?_ | refine zqs (d3) ?_ | refine zqt (d3) ?_ | refine zqs (d4) ?_ | refine zqt (d4) ?_); (simp (disch := omega) only [go_sem, Nat.reduceBEq, Nat.reduceBeqDiff, Nat.reduceEqDiff, ↓reduceIte, reduceCtorEq, Nat.reduceAdd, Nat.reduceMul, Nat.reduceLeDiff, Nat.reduceLT, Int.reduceLT, Int.reduceLE, Int.reduceEq, w7, w8, w14, w15, w17, w105, w106, w107, wH0, wH1, wH3, wH4, encIds, cellsId, hsl])) | ((first | refine zqd _ rfl (fun hc => ?_) (fun hc => ?_) | refine zqm _ rfl (fun hc => ?_) (fun hc => ?_)) <;> (first | (cases hc; done) | ((try simp only [boolS] at hc); (try (exfalso; omega))))) | refine zqa ?_ | refine zqi ?_ | refine zqb ?_ | refine zqg ?_ | refine zqc ?_ | refine zqk ?_ | refine zql ?_ | refine zqn ?_ | refine zqv ?_ | refine zqw ?_ | refine zqx ?_ | refine zqy ?_ | refine zqz ?_ | refine zqza rfl ?_ | refine zqzb ?_ | refine zqp ?_ | refine zqo ?_ | refine zqu (by (simp (disch := omega) only [go_sem, Nat.reduceBEq, Nat.reduceBeqDiff, Nat.reduceEqDiff, ↓reduceIte, reduceCtorEq, Nat.reduceAdd, Nat.reduceLeDiff, Nat.reduceLT, w7, w8, w14, w15, w17, w105, w106, w107, wH0, wH1, wH3, wH4, encIds, cellsId, hsl]); rfl) rfl ?_ | (refine hK _ ?_; clear hK K) | (refine zqf (fun hb => ?_) (fun hb => ?_) <;> (have hb2 := hb; try simp only [boolS] at hb2) <;> ((first | have hb3 : (_ : Bool) = _ := hb2 | have hb3 := eq_false hb2 | have hb3 := eq_true hb2); (simp (disch := omega) only [go_sem, Nat.reduceBEq, Nat.reduceBeqDiff, Nat.reduceEqDiff, ↓reduceIte, reduceCtorEq, Nat.reduceAdd, Nat.reduceMul, Nat.reduceLeDiff, Nat.reduceLT, Int.reduceLT, Int.reduceLE, Int.reduceEq, hb, hb3, w7, w8, w14, w15, w17, w105, w106, w107, wH0, wH1, wH3, wH4, encIds, cellsId, hsl]); clear hb hb3; (try (exfalso; omega)))) | (exfalso; omega))
   all_goals first | exact fin_bool (decide_eq_true (by omega)) | exact fin_bool rfl
 ·skip
  repeat' (first | refine zqj ?_ | ((first | refine zqh fun K hK => ?_ | refine zqe (by decide +kernel) fun K hK => ?_ | refine zqr fun K hK => ?_ | refine zqq (by decide +kernel) fun K hK => ?_ | refine zqs (ha) ?_ | refine zqt (ha) ?_ | refine zqs (hf1) ?_ | refine zqt (hf1) ?_ | refine zqs (c1) ?_ | refine zqt (c1) ?_ | refine zqs (r1) ?_ | refine zqt (r1) ?_); (simp (disch := omega) only [go_sem, Nat.reduceBEq, Nat.reduceBeqDiff, Nat.reduceEqDiff, ↓reduceIte, reduceCtorEq, Nat.reduceAdd, Nat.reduceMul, Nat.reduceLeDiff, Nat.reduceLT, Int.reduceLT, Int.reduceLE, Int.reduceEq, cellsId, encWs, hk, he0])) | ((first | refine zqd _ rfl (fun hc => ?_) (fun hc => ?_) | refine zqm _ rfl (fun hc => ?_) (fun hc => ?_)) <;> (first | (cases hc; done) | ((try simp only [boolS] at hc); (try (exfalso; omega))))) | refine zqa ?_ | refine zqi ?_ | refine zqb ?_ | refine zqg ?_ | refine zqc ?_ | refine zqk ?_ | refine zql ?_ | refine zqn ?_ | refine zqv ?_ | refine zqw ?_ | refine zqx ?_ | refine zqy ?_ | refine zqz ?_ | refine zqza rfl ?_ | refine zqzb ?_ | refine zqp ?_ | refine zqo ?_ | refine zqu (by (simp (disch := omega) only [go_sem, Nat.reduceBEq, Nat.reduceBeqDiff, Nat.reduceEqDiff, ↓reduceIte, reduceCtorEq, Nat.reduceAdd, Nat.reduceLeDiff, Nat.reduceLT, cellsId, encWs, hk, he0]); rfl) rfl ?_ | (refine hK _ ?_; clear hK K) | (refine zqf (fun hb => ?_) (fun hb => ?_) <;> (have hb2 := hb; try simp only [boolS] at hb2) <;> ((first | have hb3 : (_ : Bool) = _ := hb2 | have hb3 := eq_false hb2 | have hb3 := eq_true hb2); (simp (disch := omega) only [go_sem, Nat.reduceBEq, Nat.reduceBeqDiff, Nat.reduceEqDiff, ↓reduceIte, reduceCtorEq, Nat.reduceAdd, Nat.reduceMul, Nat.reduceLeDiff, Nat.reduceLT, Int.reduceLT, Int.reduceLE, Int.reduceEq, hb, hb3, cellsId, encWs, hk, he0]); clear hb hb3; (try (exfalso; omega)))) | (exfalso; omega))
  all_goals first | exact fin_bool rfl
theorem leaves3 (u : T) (hfu : fitB u = true) (id parent : Idv) (i : Int) (name : ByteArray) (l : List Wd) (hl : l.length ≤ maxLen) (hw : ∀ w ∈ l, w.text.size ≤ maxLen) (kd : Int) (hkd : 0 ≤ kd ∧ kd ≤ 255) (h1 : fewB u 30 = true) (h2 : name.size ≤ 60) (h3 : l.length ≤ 60) (h4 : standsT u = true) (hk : ¬ kd.tmod 4 = 0) (hk1 : ¬ kd.tmod 4 = 1) (hk2 : ¬ kd.tmod 4 = 2) :
  PC Tryz.prog 8 [encU u, encId id, encId parent, .int .i64 i, .str name, encWs l, .int .u8 kd] (.bool true) := by
 have ha := pc_awake8
 have hf1 := pc_Few u hfu 30 (by omega) (by omega)
 refine zqzd 1 (by simp only [pureD.pureL, pure_encU, pure_encWs, pureD, Bool.and_self]; rfl) rfl (zqze [] Tryz.func8 rfl (by decide +kernel) mixed (by decide +kernel) (by simp [Tryz.ntmps8]) ?_)
 show awp _ _ (Code.seq _ _) _ _
 skip
 rw [h1] at hf1
 obtain ⟨hsu, hcu, hdu⟩ := few_sz (by omega) (by omega) h1
 have c1 := pc_StandsR u hsu (by omega) (by omega)
 rw [h4] at c1
 have r1 := pc_SetWords u hsu (by omega) (by omega) id l (by omega) hw
 have zv : szB (if writeE u id l = 0 then editT id (fun q => q.setWords l) u else T.zero) = true := (sz_if fun h => sz_edit (fun q hq _ => sz_setWords (by omega) (write_short h) hq) u hsu)
 have hL0 : writeE u id l = 0 → LRP u (if writeE u id l = 0 then editT id (fun q => q.setWords l) u else T.zero) id [] := fun h => by rw [if_pos h]; exact lrp_words h
 generalize (if writeE u id l = 0 then editT id (fun q => q.setWords l) u else T.zero) = v at r1 zv hL0
 generalize writeE u id l = e at r1 hL0
 obtain ⟨gone, hgone⟩ : ∃ gone : List Idv, gone = [] := ⟨_, rfl⟩
 by_cases he0 : e = 0
 ·have hL := hL0 he0
  subst he0
  rw [← hgone] at hL
  obtain ⟨q1, q2, q3, q4⟩ := hL
  have hil := idsT_len u
  have d1 := pc_All u hsu (by omega)
  have d2 := pc_StandsR v zv (by omega) (by have := dep8 q1; omega)
  have d3 := pc_CountR v zv (by omega)
  have d4 := pc_CountR u hsu (by omega)
  rw [q1] at d2
  repeat' (first | refine zqj ?_ | ((first | refine zqh fun K hK => ?_ | refine zqe (by decide +kernel) fun K hK => ?_ | refine zqr fun K hK => ?_ | refine zqq (by decide +kernel) fun K hK => ?_ | refine zqs (ha) ?_ | refine zqt (ha) ?_ | refine zqs (hf1) ?_ | refine zqt (hf1) ?_ | refine zqs (c1) ?_ | refine zqt (c1) ?_ | refine zqs (r1) ?_ | refine zqt (r1) ?_ | refine zqs (d1) ?_ | refine zqt (d1) ?_); (simp (disch := omega) only [go_sem, Nat.reduceBEq, Nat.reduceBeqDiff, Nat.reduceEqDiff, ↓reduceIte, reduceCtorEq, Nat.reduceAdd, Nat.reduceMul, Nat.reduceLeDiff, Nat.reduceLT, Int.reduceLT, Int.reduceLE, Int.reduceEq, encIds, cellsId, encWs, hk, hk1, hk2])) | ((first | refine zqd _ rfl (fun hc => ?_) (fun hc => ?_) | refine zqm _ rfl (fun hc => ?_) (fun hc => ?_)) <;> (first | (cases hc; done) | ((try simp only [boolS] at hc); (try (exfalso; omega))))) | refine zqa ?_ | refine zqi ?_ | refine zqb ?_ | refine zqg ?_ | refine zqc ?_ | refine zqk ?_ | refine zql ?_ | refine zqn ?_ | refine zqv ?_ | refine zqw ?_ | refine zqx ?_ | refine zqy ?_ | refine zqz ?_ | refine zqza rfl ?_ | refine zqzb ?_ | refine zqp ?_ | refine zqo ?_ | refine zqu (by (simp (disch := omega) only [go_sem, Nat.reduceBEq, Nat.reduceBeqDiff, Nat.reduceEqDiff, ↓reduceIte, reduceCtorEq, Nat.reduceAdd, Nat.reduceLeDiff, Nat.reduceLT, encIds, cellsId, encWs, hk, hk1, hk2]); rfl) rfl ?_ | (refine hK _ ?_; clear hK K) | (refine zqf (fun hb => ?_) (fun hb => ?_) <;> (have hb2 := hb; try simp only [boolS] at hb2) <;> ((first | have hb3 : (_ : Bool) = _ := hb2 | have hb3 := eq_false hb2 | have hb3 := eq_true hb2); (simp (disch := omega) only [go_sem, Nat.reduceBEq, Nat.reduceBeqDiff, Nat.reduceEqDiff, ↓reduceIte, reduceCtorEq, Nat.reduceAdd, Nat.reduceMul, Nat.reduceLeDiff, Nat.reduceLT, Int.reduceLT, Int.reduceLE, Int.reduceEq, hb, hb3, encIds, cellsId, encWs, hk, hk1, hk2]); clear hb hb3; (try (exfalso; omega)))) | (exfalso; omega))
  (refine zqzc (fun mz st => ∃ (m : _), mz = (idsT u).length - m ∧ st.t 7 = .ptr 0 0 ∧ st.t 8 = .ptr 1 0 ∧ st.t 14 = .bool false ∧ st.t 15 = .ptr 3 0 ∧ st.t 17 = .mp 4 ∧ st.t 105 = encIds (idsT u) ∧ st.t 106 = .int .i64 (idsT u).length ∧ st.t 107 = .int .i64 m ∧ st.H 0 = some (.box 27 (cellsU u)) ∧ st.H 1 = some (.box 23 (cellsId id)) ∧ st.H 3 = some (.box 27 (cellsU v)) ∧ st.H 4 = some (.map (setI gone)) ∧ (m ≤ (idsT u).length) ∧ (5 ≤ st.nx)) ?_ ?_); rotate_left; (rintro mz st ⟨m, rfl, w7, w8, w14, w15, w17, w105, w106, w107, wH0, wH1, wH3, wH4, wp0, wp1⟩); rotate_left
  ·(refine ⟨_, 0, rfl, ?_⟩); (simp (disch := omega) only [go_sem, Nat.reduceBEq, Nat.reduceBeqDiff, Nat.reduceEqDiff, ↓reduceIte, reduceCtorEq, Nat.reduceAdd, Nat.reduceMul, Nat.reduceLeDiff, Nat.reduceLT, Int.reduceLT, Int.reduceLE, Int.reduceEq, true_and, and_true, and_self, Int.natCast_add, Int.natCast_one, Int.natCast_zero, List.flatMap_nil, List.map_nil, List.append_nil, List.nil_append, encIds, cellsId, hgone, setI])
   all_goals first | omega
  by_cases hm : m < (idsT u).length
  ·have hmem : (idsT u)[m] ∈ idsT u := List.getElem_mem hm
   generalize hkk : (idsT u)[m] = k at hmem
   obtain ⟨g1, g2⟩ := q4 k hmem
   have e1 := pc_FindR k u hsu
   have e2 := pc_FindR k v zv
   have e3 := pc_ParentR k u hsu
   have e4 := pc_ParentR k v zv
   have e5 := pc_alone8 (findR k u).1
   have e6 := pc_alone8 (findR k v).1
   have hfd := find_I k gone
   by_cases hgo : k ∈ gone
   ·rw [decide_eq_true hgo, Bool.not_true] at g1
    rw [if_pos hgo] at hfd
    rw [show findR k v = ((findR k v).1, false) from by rw [← g1]] at e2
    skip
    repeat' (first | refine zqj ?_ | ((first | refine zqh fun K hK => ?_ | refine zqe (by decide +kernel) fun K hK => ?_ | refine zqr fun K hK => ?_ | refine zqq (by decide +kernel) fun K hK => ?_ | refine zqs (e1) ?_ | refine zqt (e1) ?_ | refine zqs (e2) ?_ | refine zqt (e2) ?_ | refine zqs (e3) ?_ | refine zqt (e3) ?_ | refine zqs (e4) ?_ | refine zqt (e4) ?_); (simp (disch := omega) only [go_sem, Nat.reduceBEq, Nat.reduceBeqDiff, Nat.reduceEqDiff, ↓reduceIte, reduceCtorEq, Nat.reduceAdd, Nat.reduceMul, Nat.reduceLeDiff, Nat.reduceLT, Int.reduceLT, Int.reduceLE, Int.reduceEq, w7, w8, w14, w15, w17, w105, w106, w107, wH0, wH1, wH3, wH4, encIds, cellsId, hkk, hfd])) | ((first | refine zqd _ rfl (fun hc => ?_) (fun hc => ?_) | refine zqm _ rfl (fun hc => ?_) (fun hc => ?_)) <;> (first | (cases hc; done) | ((try simp only [boolS] at hc); (try (exfalso; omega))))) | refine zqa ?_ | refine zqi ?_ | refine zqb ?_ | refine zqg ?_ | refine zqc ?_ | refine zqk ?_ | refine zql ?_ | refine zqn ?_ | refine zqv ?_ | refine zqw ?_ | refine zqx ?_ | refine zqy ?_ | refine zqz ?_ | refine zqza rfl ?_ | refine zqzb ?_ | refine zqp ?_ | refine zqo ?_ | refine zqu (by (simp (disch := omega) only [go_sem, Nat.reduceBEq, Nat.reduceBeqDiff, Nat.reduceEqDiff, ↓reduceIte, reduceCtorEq, Nat.reduceAdd, Nat.reduceLeDiff, Nat.reduceLT, w7, w8, w14, w15, w17, w105, w106, w107, wH0, wH1, wH3, wH4, encIds, cellsId, hkk, hfd]); rfl) rfl ?_ | (refine hK _ ?_; clear hK K) | (refine zqf (fun hb => ?_) (fun hb => ?_) <;> (have hb2 := hb; try simp only [boolS] at hb2) <;> ((first | have hb3 : (_ : Bool) = _ := hb2 | have hb3 := eq_false hb2 | have hb3 := eq_true hb2); (simp (disch := omega) only [go_sem, Nat.reduceBEq, Nat.reduceBeqDiff, Nat.reduceEqDiff, ↓reduceIte, reduceCtorEq, Nat.reduceAdd, Nat.reduceMul, Nat.reduceLeDiff, Nat.reduceLT, Int.reduceLT, Int.reduceLE, Int.reduceEq, hb, hb3, w7, w8, w14, w15, w17, w105, w106, w107, wH0, wH1, wH3, wH4, encIds, cellsId, hkk, hfd]); clear hb hb3; (try (exfalso; omega)))) | (exfalso; omega))
    (refine Exists.intro _ (And.intro ?_ ⟨m + 1, rfl, ?_⟩)); rotate_left; (simp (disch := omega) only [go_sem, Nat.reduceBEq, Nat.reduceBeqDiff, Nat.reduceEqDiff, ↓reduceIte, reduceCtorEq, Nat.reduceAdd, Nat.reduceMul, Nat.reduceLeDiff, Nat.reduceLT, Int.reduceLT, Int.reduceLE, Int.reduceEq, w7, w8, w14, w15, w17, w105, w106, w107, wH0, wH1, wH3, wH4, true_and, and_true, and_self, Int.natCast_add, Int.natCast_one, Int.natCast_zero, List.flatMap_append, List.flatMap_cons, List.flatMap_nil, List.map_append, List.map_cons, List.map_nil, List.append_nil, List.cons_append, List.nil_append, encIds, cellsId]); rotate_left
    ·omega
    ·all_goals first | omega | exact ⟨by omega, by omega⟩
   ·rw [decide_eq_false hgo, Bool.not_false] at g1
    rw [if_neg hgo] at hfd
    have g3 := g2 g1
    by_cases hki : k = id
    ·subst hki
     skip
     repeat' (first | refine zqj ?_ | ((first | refine zqh fun K hK => ?_ | refine zqe (by decide +kernel) fun K hK => ?_ | refine zqr fun K hK => ?_ | refine zqq (by decide +kernel) fun K hK => ?_ | refine zqs (e1) ?_ | refine zqt (e1) ?_ | refine zqs (e2) ?_ | refine zqt (e2) ?_ | refine zqs (e3) ?_ | refine zqt (e3) ?_ | refine zqs (e4) ?_ | refine zqt (e4) ?_); (simp (disch := omega) only [go_sem, Nat.reduceBEq, Nat.reduceBeqDiff, Nat.reduceEqDiff, ↓reduceIte, reduceCtorEq, Nat.reduceAdd, Nat.reduceMul, Nat.reduceLeDiff, Nat.reduceLT, Int.reduceLT, Int.reduceLE, Int.reduceEq, w7, w8, w14, w15, w17, w105, w106, w107, wH0, wH1, wH3, wH4, encIds, cellsId, hkk, hfd, g1])) | ((first | refine zqd _ rfl (fun hc => ?_) (fun hc => ?_) | refine zqm _ rfl (fun hc => ?_) (fun hc => ?_)) <;> (first | (cases hc; done) | ((try simp only [boolS] at hc); (try (exfalso; omega))))) | refine zqa ?_ | refine zqi ?_ | refine zqb ?_ | refine zqg ?_ | refine zqc ?_ | refine zqk ?_ | refine zql ?_ | refine zqn ?_ | refine zqv ?_ | refine zqw ?_ | refine zqx ?_ | refine zqy ?_ | refine zqz ?_ | refine zqza rfl ?_ | refine zqzb ?_ | refine zqp ?_ | refine zqo ?_ | refine zqu (by (simp (disch := omega) only [go_sem, Nat.reduceBEq, Nat.reduceBeqDiff, Nat.reduceEqDiff, ↓reduceIte, reduceCtorEq, Nat.reduceAdd, Nat.reduceLeDiff, Nat.reduceLT, w7, w8, w14, w15, w17, w105, w106, w107, wH0, wH1, wH3, wH4, encIds, cellsId, hkk, hfd, g1]); rfl) rfl ?_ | (refine hK _ ?_; clear hK K) | (refine zqf (fun hb => ?_) (fun hb => ?_) <;> (have hb2 := hb; try simp only [boolS] at hb2) <;> ((first | have hb3 : (_ : Bool) = _ := hb2 | have hb3 := eq_false hb2 | have hb3 := eq_true hb2); (simp (disch := omega) only [go_sem, Nat.reduceBEq, Nat.reduceBeqDiff, Nat.reduceEqDiff, ↓reduceIte, reduceCtorEq, Nat.reduceAdd, Nat.reduceMul, Nat.reduceLeDiff, Nat.reduceLT, Int.reduceLT, Int.reduceLE, Int.reduceEq, hb, hb3, w7, w8, w14, w15, w17, w105, w106, w107, wH0, wH1, wH3, wH4, encIds, cellsId, hkk, hfd, g1]); clear hb hb3; (try (exfalso; omega)))) | (exfalso; omega))
     (refine Exists.intro _ (And.intro ?_ ⟨m + 1, rfl, ?_⟩)); rotate_left; (simp (disch := omega) only [go_sem, Nat.reduceBEq, Nat.reduceBeqDiff, Nat.reduceEqDiff, ↓reduceIte, reduceCtorEq, Nat.reduceAdd, Nat.reduceMul, Nat.reduceLeDiff, Nat.reduceLT, Int.reduceLT, Int.reduceLE, Int.reduceEq, w7, w8, w14, w15, w17, w105, w106, w107, wH0, wH1, wH3, wH4, true_and, and_true, and_self, Int.natCast_add, Int.natCast_one, Int.natCast_zero, List.flatMap_append, List.flatMap_cons, List.flatMap_nil, List.map_append, List.map_cons, List.map_nil, List.append_nil, List.cons_append, List.nil_append, encIds, cellsId]); rotate_left
     ·omega
     ·all_goals first | omega | exact ⟨by omega, by omega⟩
    ·obtain ⟨g4, g5⟩ := g3 hki
     have e7 := pc_Same (aloneT (findR k u).1) (sz_alone (sz_find k u hsu)) (aloneT (findR k v).1) (sz_alone (sz_find k v zv))
     rw [decide_eq_true g4] at e7
     skip
     repeat' (first | refine zqj ?_ | ((first | refine zqh fun K hK => ?_ | refine zqe (by decide +kernel) fun K hK => ?_ | refine zqr fun K hK => ?_ | refine zqq (by decide +kernel) fun K hK => ?_ | refine zqs (e1) ?_ | refine zqt (e1) ?_ | refine zqs (e2) ?_ | refine zqt (e2) ?_ | refine zqs (e3) ?_ | refine zqt (e3) ?_ | refine zqs (e4) ?_ | refine zqt (e4) ?_ | refine zqs (e5) ?_ | refine zqt (e5) ?_ | refine zqs (e6) ?_ | refine zqt (e6) ?_ | refine zqs (e7) ?_ | refine zqt (e7) ?_); (simp (disch := omega) only [go_sem, Nat.reduceBEq, Nat.reduceBeqDiff, Nat.reduceEqDiff, ↓reduceIte, reduceCtorEq, Nat.reduceAdd, Nat.reduceMul, Nat.reduceLeDiff, Nat.reduceLT, Int.reduceLT, Int.reduceLE, Int.reduceEq, w7, w8, w14, w15, w17, w105, w106, w107, wH0, wH1, wH3, wH4, encIds, cellsId, hkk, hfd, g1, g5, hki])) | ((first | refine zqd _ rfl (fun hc => ?_) (fun hc => ?_) | refine zqm _ rfl (fun hc => ?_) (fun hc => ?_)) <;> (first | (cases hc; done) | ((try simp only [boolS] at hc); (try (exfalso; omega))))) | refine zqa ?_ | refine zqi ?_ | refine zqb ?_ | refine zqg ?_ | refine zqc ?_ | refine zqk ?_ | refine zql ?_ | refine zqn ?_ | refine zqv ?_ | refine zqw ?_ | refine zqx ?_ | refine zqy ?_ | refine zqz ?_ | refine zqza rfl ?_ | refine zqzb ?_ | refine zqp ?_ | refine zqo ?_ | refine zqu (by (simp (disch := omega) only [go_sem, Nat.reduceBEq, Nat.reduceBeqDiff, Nat.reduceEqDiff, ↓reduceIte, reduceCtorEq, Nat.reduceAdd, Nat.reduceLeDiff, Nat.reduceLT, w7, w8, w14, w15, w17, w105, w106, w107, wH0, wH1, wH3, wH4, encIds, cellsId, hkk, hfd, g1, g5, hki]); rfl) rfl ?_ | (refine hK _ ?_; clear hK K) | (refine zqf (fun hb => ?_) (fun hb => ?_) <;> (have hb2 := hb; try simp only [boolS] at hb2) <;> ((first | have hb3 : (_ : Bool) = _ := hb2 | have hb3 := eq_false hb2 | have hb3 := eq_true hb2); (simp (disch := omega) only [go_sem, Nat.reduceBEq, Nat.reduceBeqDiff, Nat.reduceEqDiff, ↓reduceIte, reduceCtorEq, Nat.reduceAdd, Nat.reduceMul, Nat.reduceLeDiff, Nat.reduceLT, Int.reduceLT, Int.reduceLE, Int.reduceEq, hb, hb3, w7, w8, w14, w15, w17, w105, w106, w107, wH0, wH1, wH3, wH4, encIds, cellsId, hkk, hfd, g1, g5, hki]); clear hb hb3; (try (exfalso; omega)))) | (exfalso; omega))
     (refine Exists.intro _ (And.intro ?_ ⟨m + 1, rfl, ?_⟩)); rotate_left; (simp (disch := omega) only [go_sem, Nat.reduceBEq, Nat.reduceBeqDiff, Nat.reduceEqDiff, ↓reduceIte, reduceCtorEq, Nat.reduceAdd, Nat.reduceMul, Nat.reduceLeDiff, Nat.reduceLT, Int.reduceLT, Int.reduceLE, Int.reduceEq, w7, w8, w14, w15, w17, w105, w106, w107, wH0, wH1, wH3, wH4, true_and, and_true, and_self, Int.natCast_add, Int.natCast_one, Int.natCast_zero, List.flatMap_append, List.flatMap_cons, List.flatMap_nil, List.map_append, List.map_cons, List.map_nil, List.append_nil, List.cons_append, List.nil_append, encIds, cellsId]); rotate_left
     ·omega
     ·all_goals first | omega | exact ⟨by omega, by omega⟩
  ·have hme : m = (idsT u).length := by omega
   subst hme
   have hsl : (setI gone).length = gone.length := by unfold setI; simp
   skip
   repeat' (first | refine zqj ?_ | ((first | refine zqh fun K hK => ?_ | refine zqe (by decide +kernel) fun K hK => ?_ | refine zqr fun K hK => ?_ | refine zqq (by decide +kernel) fun K hK => ?_ | refine zqs (ha) ?_ | refine zqt (ha) ?_ | refine zqs (d2) ?_ | refine zqt (d2) ?_ | refine zqs (d3) ?_ | refine zqt (d3) ?_ | refine zqs (d4) ?_ | refine zqt (d4) ?_); (simp (disch := omega) only [go_sem, Nat.reduceBEq, Nat.reduceBeqDiff, Nat.reduceEqDiff, ↓reduceIte, reduceCtorEq, Nat.reduceAdd, Nat.reduceMul, Nat.reduceLeDiff, Nat.reduceLT, Int.reduceLT, Int.reduceLE, Int.reduceEq, w7, w8, w14, w15, w17, w105, w106, w107, wH0, wH1, wH3, wH4, encIds, cellsId, hsl])) | ((first | refine zqd _ rfl (fun hc => ?_) (fun hc => ?_) | refine zqm _ rfl (fun hc => ?_) (fun hc => ?_)) <;> (first | (cases hc; done) | ((try simp only [boolS] at hc); (try (exfalso; omega))))) | refine zqa ?_ | refine zqi ?_ | refine zqb ?_ | refine zqg ?_ | refine zqc ?_ | refine zqk ?_ | refine zql ?_ | refine zqn ?_ | refine zqv ?_ | refine zqw ?_ | refine zqx ?_ | refine zqy ?_ | refine zqz ?_ | refine zqza rfl ?_ | refine zqzb ?_ | refine zqp ?_ | refine zqo ?_ | refine zqu (by (simp (disch := omega) only [go_sem, Nat.reduceBEq, Nat.reduceBeqDiff, Nat.reduceEqDiff, ↓reduceIte, reduceCtorEq, Nat.reduceAdd, Nat.reduceLeDiff, Nat.reduceLT, w7, w8, w14, w15, w17, w105, w106, w107, wH0, wH1, wH3, wH4, encIds, cellsId, hsl]); rfl) rfl ?_ | (refine hK _ ?_; clear hK K) | (refine zqf (fun hb => ?_) (fun hb => ?_) <;> (have hb2 := hb; try simp only [boolS] at hb2) <;> ((first | have hb3 : (_ : Bool) = _ := hb2 | have hb3 := eq_false hb2 | have hb3 := eq_true hb2); (simp (disch := omega) only [go_sem, Nat.reduceBEq, Nat.reduceBeqDiff, Nat.reduceEqDiff, ↓reduceIte, reduceCtorEq, Nat.reduceAdd, Nat.reduceMul, Nat.reduceLeDiff, Nat.reduceLT, Int.reduceLT, Int.reduceLE, Int.reduceEq, hb, hb3, w7, w8, w14, w15, w17, w105, w106, w107, wH0, wH1, wH3, wH4, encIds, cellsId, hsl]); clear hb hb3; (try (exfalso; omega)))) | (exfalso; omega))
   all_goals first | exact fin_bool (decide_eq_true (by omega)) | exact fin_bool rfl
 ·skip
  repeat' (first | refine zqj ?_ | ((first | refine zqh fun K hK => ?_ | refine zqe (by decide +kernel) fun K hK => ?_ | refine zqr fun K hK => ?_ | refine zqq (by decide +kernel) fun K hK => ?_ | refine zqs (ha) ?_ | refine zqt (ha) ?_ | refine zqs (hf1) ?_ | refine zqt (hf1) ?_ | refine zqs (c1) ?_ | refine zqt (c1) ?_ | refine zqs (r1) ?_ | refine zqt (r1) ?_); (simp (disch := omega) only [go_sem, Nat.reduceBEq, Nat.reduceBeqDiff, Nat.reduceEqDiff, ↓reduceIte, reduceCtorEq, Nat.reduceAdd, Nat.reduceMul, Nat.reduceLeDiff, Nat.reduceLT, Int.reduceLT, Int.reduceLE, Int.reduceEq, cellsId, encWs, hk, hk1, hk2, he0])) | ((first | refine zqd _ rfl (fun hc => ?_) (fun hc => ?_) | refine zqm _ rfl (fun hc => ?_) (fun hc => ?_)) <;> (first | (cases hc; done) | ((try simp only [boolS] at hc); (try (exfalso; omega))))) | refine zqa ?_ | refine zqi ?_ | refine zqb ?_ | refine zqg ?_ | refine zqc ?_ | refine zqk ?_ | refine zql ?_ | refine zqn ?_ | refine zqv ?_ | refine zqw ?_ | refine zqx ?_ | refine zqy ?_ | refine zqz ?_ | refine zqza rfl ?_ | refine zqzb ?_ | refine zqp ?_ | refine zqo ?_ | refine zqu (by (simp (disch := omega) only [go_sem, Nat.reduceBEq, Nat.reduceBeqDiff, Nat.reduceEqDiff, ↓reduceIte, reduceCtorEq, Nat.reduceAdd, Nat.reduceLeDiff, Nat.reduceLT, cellsId, encWs, hk, hk1, hk2, he0]); rfl) rfl ?_ | (refine hK _ ?_; clear hK K) | (refine zqf (fun hb => ?_) (fun hb => ?_) <;> (have hb2 := hb; try simp only [boolS] at hb2) <;> ((first | have hb3 : (_ : Bool) = _ := hb2 | have hb3 := eq_false hb2 | have hb3 := eq_true hb2); (simp (disch := omega) only [go_sem, Nat.reduceBEq, Nat.reduceBeqDiff, Nat.reduceEqDiff, ↓reduceIte, reduceCtorEq, Nat.reduceAdd, Nat.reduceMul, Nat.reduceLeDiff, Nat.reduceLT, Int.reduceLT, Int.reduceLE, Int.reduceEq, hb, hb3, cellsId, encWs, hk, hk1, hk2, he0]); clear hb hb3; (try (exfalso; omega)))) | (exfalso; omega))
  all_goals first | exact fin_bool rfl
end Go.Proofs.YtkhjpcmpljpmjaaGreatDoor
/-
 The walk of TreeeditLeavesRest: the arm of Remove, and the whole law. No condition but lengths.
-/
namespace Go.Proofs.YtkhjpcmpljpmjaaGreatDoor
open Abs Facts Tr
attribute [local irreducible] awp
set_option maxRecDepth 100000
theorem leaves0 (u : T) (hfu : fitB u = true) (id parent : Idv) (i : Int) (name : ByteArray) (l : List Wd) (hl : l.length ≤ maxLen) (hw : ∀ w ∈ l, w.text.size ≤ maxLen) (kd : Int) (hkd : 0 ≤ kd ∧ kd ≤ 255) (h1 : fewB u 30 = true) (h2 : name.size ≤ 60) (h3 : l.length ≤ 60) (h4 : standsT u = true) (hk : kd.tmod 4 = 0) :
  PC Tryz.prog 8 [encU u, encId id, encId parent, .int .i64 i, .str name, encWs l, .int .u8 kd] (.bool true) := by
 have ha := pc_awake8
 have hf1 := pc_Few u hfu 30 (by omega) (by omega)
 refine zqzd 1 (by simp only [pureD.pureL, pure_encU, pure_encWs, pureD, Bool.and_self]; rfl) rfl (zqze [] Tryz.func8 rfl (by decide +kernel) mixed (by decide +kernel) (by simp [Tryz.ntmps8]) ?_)
 show awp _ _ (Code.seq _ _) _ _
 skip
 rw [h1] at hf1
 obtain ⟨hsu, hcu, hdu⟩ := few_sz (by omega) (by omega) h1
 have c1 := pc_StandsR u hsu (by omega) (by omega)
 rw [h4] at c1
 have r1 := pc_Remove u hsu (by omega) (by omega) id
 have zv : szB (if takeE u id = 0 then wipeT id u else T.zero) = true := sz_if fun _ => sz_wipe u hsu
 have zx : szB (if takeE u id = 0 then (findR id u).1 else T.zero) = true := sz_if fun _ => sz_find id u hsu
 have cx : cntT (if takeE u id = 0 then (findR id u).1 else T.zero) ≤ 1000000 := by
  split
  ·rename_i h
   have h5 := (lrp_remove h).2.1
   rw [idsT_len] at h5; omega
  ·decide +kernel
 have hL0 : takeE u id = 0 → LRP u (if takeE u id = 0 then wipeT id u else T.zero) id (idsT (if takeE u id = 0 then (findR id u).1 else T.zero)) := fun h => by rw [if_pos h, if_pos h]; exact lrp_remove h
 have hN0 : (idsT (if takeE u id = 0 then (findR id u).1 else T.zero)).Nodup := by
  split
  ·rename_i h; exact (lrp_remove h).2.2.1
  ·decide +kernel
 generalize (if takeE u id = 0 then wipeT id u else T.zero) = v at r1 zv hL0
 generalize (if takeE u id = 0 then (findR id u).1 else T.zero) = x at r1 zx cx hL0 hN0
 generalize takeE u id = e at r1 hL0
 have hxl := idsT_len x
 have c2 := pc_All x zx (by omega)
 repeat' (first | refine zqj ?_ | ((first | refine zqh fun K hK => ?_ | refine zqe (by decide +kernel) fun K hK => ?_ | refine zqr fun K hK => ?_ | refine zqq (by decide +kernel) fun K hK => ?_ | refine zqs (ha) ?_ | refine zqt (ha) ?_ | refine zqs (hf1) ?_ | refine zqt (hf1) ?_ | refine zqs (c1) ?_ | refine zqt (c1) ?_ | refine zqs (r1) ?_ | refine zqt (r1) ?_ | refine zqs (c2) ?_ | refine zqt (c2) ?_); (simp (disch := omega) only [go_sem, Nat.reduceBEq, Nat.reduceBeqDiff, Nat.reduceEqDiff, ↓reduceIte, reduceCtorEq, Nat.reduceAdd, Nat.reduceMul, Nat.reduceLeDiff, Nat.reduceLT, Int.reduceLT, Int.reduceLE, Int.reduceEq, encIds, cellsId, encWs, hk])) | ((first | refine zqd _ rfl (fun hc => ?_) (fun hc => ?_) | refine zqm _ rfl (fun hc => ?_) (fun hc => ?_)) <;> (first | (cases hc; done) | ((try simp only [boolS] at hc); (try (exfalso; omega))))) | refine zqa ?_ | refine zqi ?_ | refine zqb ?_ | refine zqg ?_ | refine zqc ?_ | refine zqk ?_ | refine zql ?_ | refine zqn ?_ | refine zqv ?_ | refine zqw ?_ | refine zqx ?_ | refine zqy ?_ | refine zqz ?_ | refine zqza rfl ?_ | refine zqzb ?_ | refine zqp ?_ | refine zqo ?_ | refine zqu (by (simp (disch := omega) only [go_sem, Nat.reduceBEq, Nat.reduceBeqDiff, Nat.reduceEqDiff, ↓reduceIte, reduceCtorEq, Nat.reduceAdd, Nat.reduceLeDiff, Nat.reduceLT, encIds, cellsId, encWs, hk]); rfl) rfl ?_ | (refine hK _ ?_; clear hK K) | (refine zqf (fun hb => ?_) (fun hb => ?_) <;> (have hb2 := hb; try simp only [boolS] at hb2) <;> ((first | have hb3 : (_ : Bool) = _ := hb2 | have hb3 := eq_false hb2 | have hb3 := eq_true hb2); (simp (disch := omega) only [go_sem, Nat.reduceBEq, Nat.reduceBeqDiff, Nat.reduceEqDiff, ↓reduceIte, reduceCtorEq, Nat.reduceAdd, Nat.reduceMul, Nat.reduceLeDiff, Nat.reduceLT, Int.reduceLT, Int.reduceLE, Int.reduceEq, hb, hb3, encIds, cellsId, encWs, hk]); clear hb hb3; (try (exfalso; omega)))) | (exfalso; omega))
 (refine zqzc (fun mz st => ∃ (j : _), mz = (idsT x).length - j ∧ st.t 7 = .ptr 0 0 ∧ st.t 8 = .ptr 1 0 ∧ st.t 14 = .bool false ∧ st.t 15 = .ptr 3 0 ∧ st.t 16 = .int .i64 e ∧ st.t 17 = .mp 4 ∧ st.t 73 = encIds (idsT x) ∧ st.t 74 = .int .i64 (idsT x).length ∧ st.t 75 = .int .i64 j ∧ st.H 0 = some (.box 27 (cellsU u)) ∧ st.H 1 = some (.box 23 (cellsId id)) ∧ st.H 3 = some (.box 27 (cellsU v)) ∧ st.H 4 = some (.map (setI ((idsT x).take j))) ∧ (j ≤ (idsT x).length) ∧ (6 ≤ st.nx)) ?_ ?_); rotate_left; (rintro mz st ⟨j, rfl, z7, z8, z14, z15, z16, z17, z73, z74, z75, zH0, zH1, zH3, zH4, zp0, zp1⟩); rotate_left
 ·(refine ⟨_, 0, rfl, ?_⟩); (simp (disch := omega) only [go_sem, Nat.reduceBEq, Nat.reduceBeqDiff, Nat.reduceEqDiff, ↓reduceIte, reduceCtorEq, Nat.reduceAdd, Nat.reduceMul, Nat.reduceLeDiff, Nat.reduceLT, Int.reduceLT, Int.reduceLE, Int.reduceEq, true_and, and_true, and_self, Int.natCast_add, Int.natCast_one, Int.natCast_zero, List.flatMap_nil, List.map_nil, List.append_nil, List.nil_append, encIds, cellsId, setI])
  all_goals first | omega
 by_cases hj : j < (idsT x).length
 ·have hfd := find_I (idsT x)[j] ((idsT x).take j)
  have hni : (idsT x)[j] ∉ (idsT x).take j := fun hm => by
   obtain ⟨k, hk2, he⟩ := List.mem_iff_getElem.1 hm
   rw [List.length_take] at hk2
   rw [List.getElem_take] at he
   have := (List.getElem_inj hN0).1 he
   omega
  rw [if_neg hni] at hfd
  have hsn := setI_snoc ((idsT x).take j) (idsT x)[j]
  have htk : (idsT x).take (j + 1) = (idsT x).take j ++ [(idsT x)[j]] := List.take_succ_eq_append_getElem hj
  repeat' (first | refine zqj ?_ | ((first | refine zqh fun K hK => ?_ | refine zqe (by decide +kernel) fun K hK => ?_ | refine zqr fun K hK => ?_ | refine zqq (by decide +kernel) fun K hK => ?_); (simp (disch := omega) only [go_sem, Nat.reduceBEq, Nat.reduceBeqDiff, Nat.reduceEqDiff, ↓reduceIte, reduceCtorEq, Nat.reduceAdd, Nat.reduceMul, Nat.reduceLeDiff, Nat.reduceLT, Int.reduceLT, Int.reduceLE, Int.reduceEq, z7, z8, z14, z15, z16, z17, z73, z74, z75, zH0, zH1, zH3, zH4, encIds, cellsId, hfd])) | ((first | refine zqd _ rfl (fun hc => ?_) (fun hc => ?_) | refine zqm _ rfl (fun hc => ?_) (fun hc => ?_)) <;> (first | (cases hc; done) | ((try simp only [boolS] at hc); (try (exfalso; omega))))) | refine zqa ?_ | refine zqi ?_ | refine zqb ?_ | refine zqg ?_ | refine zqc ?_ | refine zqk ?_ | refine zql ?_ | refine zqn ?_ | refine zqv ?_ | refine zqw ?_ | refine zqx ?_ | refine zqy ?_ | refine zqz ?_ | refine zqza rfl ?_ | refine zqzb ?_ | refine zqp ?_ | refine zqo ?_ | refine zqu (by (simp (disch := omega) only [go_sem, Nat.reduceBEq, Nat.reduceBeqDiff, Nat.reduceEqDiff, ↓reduceIte, reduceCtorEq, Nat.reduceAdd, Nat.reduceLeDiff, Nat.reduceLT, z7, z8, z14, z15, z16, z17, z73, z74, z75, zH0, zH1, zH3, zH4, encIds, cellsId, hfd]); rfl) rfl ?_ | (refine hK _ ?_; clear hK K) | (refine zqf (fun hb => ?_) (fun hb => ?_) <;> (have hb2 := hb; try simp only [boolS] at hb2) <;> ((first | have hb3 : (_ : Bool) = _ := hb2 | have hb3 := eq_false hb2 | have hb3 := eq_true hb2); (simp (disch := omega) only [go_sem, Nat.reduceBEq, Nat.reduceBeqDiff, Nat.reduceEqDiff, ↓reduceIte, reduceCtorEq, Nat.reduceAdd, Nat.reduceMul, Nat.reduceLeDiff, Nat.reduceLT, Int.reduceLT, Int.reduceLE, Int.reduceEq, hb, hb3, z7, z8, z14, z15, z16, z17, z73, z74, z75, zH0, zH1, zH3, zH4, encIds, cellsId, hfd]); clear hb hb3; (try (exfalso; omega)))) | (exfalso; omega))
  (refine Exists.intro _ (And.intro ?_ ⟨j + 1, rfl, ?_⟩)); rotate_left; (simp (disch := omega) only [go_sem, Nat.reduceBEq, Nat.reduceBeqDiff, Nat.reduceEqDiff, ↓reduceIte, reduceCtorEq, Nat.reduceAdd, Nat.reduceMul, Nat.reduceLeDiff, Nat.reduceLT, Int.reduceLT, Int.reduceLE, Int.reduceEq, z7, z8, z14, z15, z16, z17, z73, z74, z75, zH0, zH1, zH3, zH4, true_and, and_true, and_self, Int.natCast_add, Int.natCast_one, Int.natCast_zero, List.flatMap_append, List.flatMap_cons, List.flatMap_nil, List.map_append, List.map_cons, List.map_nil, List.append_nil, List.cons_append, List.nil_append, encIds, cellsId, htk, hsn]); rotate_left
  all_goals first | omega | exact ⟨by omega, by omega⟩
 have hje : j = (idsT x).length := by omega
 subst hje
 rw [List.take_length] at zH4
 obtain ⟨gone, hgone⟩ : ∃ gone : List Idv, gone = idsT x := ⟨_, rfl⟩
 rw [← hgone] at hL0 zH4
 by_cases he0 : e = 0
 ·have hL := hL0 he0
  subst he0
  obtain ⟨q1, q2, q3, q4⟩ := hL
  have hil := idsT_len u
  have d1 := pc_All u hsu (by omega)
  have d2 := pc_StandsR v zv (by omega) (by have := dep8 q1; omega)
  have d3 := pc_CountR v zv (by omega)
  have d4 := pc_CountR u hsu (by omega)
  rw [q1] at d2
  skip
  repeat' (first | refine zqj ?_ | ((first | refine zqh fun K hK => ?_ | refine zqe (by decide +kernel) fun K hK => ?_ | refine zqr fun K hK => ?_ | refine zqq (by decide +kernel) fun K hK => ?_ | refine zqs (ha) ?_ | refine zqt (ha) ?_ | refine zqs (d1) ?_ | refine zqt (d1) ?_); (simp (disch := omega) only [go_sem, Nat.reduceBEq, Nat.reduceBeqDiff, Nat.reduceEqDiff, ↓reduceIte, reduceCtorEq, Nat.reduceAdd, Nat.reduceMul, Nat.reduceLeDiff, Nat.reduceLT, Int.reduceLT, Int.reduceLE, Int.reduceEq, z7, z8, z14, z15, z16, z17, z73, z74, z75, zH0, zH1, zH3, zH4, encIds, cellsId])) | ((first | refine zqd _ rfl (fun hc => ?_) (fun hc => ?_) | refine zqm _ rfl (fun hc => ?_) (fun hc => ?_)) <;> (first | (cases hc; done) | ((try simp only [boolS] at hc); (try (exfalso; omega))))) | refine zqa ?_ | refine zqi ?_ | refine zqb ?_ | refine zqg ?_ | refine zqc ?_ | refine zqk ?_ | refine zql ?_ | refine zqn ?_ | refine zqv ?_ | refine zqw ?_ | refine zqx ?_ | refine zqy ?_ | refine zqz ?_ | refine zqza rfl ?_ | refine zqzb ?_ | refine zqp ?_ | refine zqo ?_ | refine zqu (by (simp (disch := omega) only [go_sem, Nat.reduceBEq, Nat.reduceBeqDiff, Nat.reduceEqDiff, ↓reduceIte, reduceCtorEq, Nat.reduceAdd, Nat.reduceLeDiff, Nat.reduceLT, z7, z8, z14, z15, z16, z17, z73, z74, z75, zH0, zH1, zH3, zH4, encIds, cellsId]); rfl) rfl ?_ | (refine hK _ ?_; clear hK K) | (refine zqf (fun hb => ?_) (fun hb => ?_) <;> (have hb2 := hb; try simp only [boolS] at hb2) <;> ((first | have hb3 : (_ : Bool) = _ := hb2 | have hb3 := eq_false hb2 | have hb3 := eq_true hb2); (simp (disch := omega) only [go_sem, Nat.reduceBEq, Nat.reduceBeqDiff, Nat.reduceEqDiff, ↓reduceIte, reduceCtorEq, Nat.reduceAdd, Nat.reduceMul, Nat.reduceLeDiff, Nat.reduceLT, Int.reduceLT, Int.reduceLE, Int.reduceEq, hb, hb3, z7, z8, z14, z15, z16, z17, z73, z74, z75, zH0, zH1, zH3, zH4, encIds, cellsId]); clear hb hb3; (try (exfalso; omega)))) | (exfalso; omega))
  (refine zqzc (fun mz st => ∃ (m : _), mz = (idsT u).length - m ∧ st.t 7 = .ptr 0 0 ∧ st.t 8 = .ptr 1 0 ∧ st.t 14 = .bool false ∧ st.t 15 = .ptr 3 0 ∧ st.t 17 = .mp 4 ∧ st.t 105 = encIds (idsT u) ∧ st.t 106 = .int .i64 (idsT u).length ∧ st.t 107 = .int .i64 m ∧ st.H 0 = some (.box 27 (cellsU u)) ∧ st.H 1 = some (.box 23 (cellsId id)) ∧ st.H 3 = some (.box 27 (cellsU v)) ∧ st.H 4 = some (.map (setI gone)) ∧ (m ≤ (idsT u).length) ∧ (5 ≤ st.nx)) ?_ ?_); rotate_left; (rintro mz st ⟨m, rfl, w7, w8, w14, w15, w17, w105, w106, w107, wH0, wH1, wH3, wH4, wp0, wp1⟩); rotate_left
  ·(refine ⟨_, 0, rfl, ?_⟩); (simp (disch := omega) only [go_sem, Nat.reduceBEq, Nat.reduceBeqDiff, Nat.reduceEqDiff, ↓reduceIte, reduceCtorEq, Nat.reduceAdd, Nat.reduceMul, Nat.reduceLeDiff, Nat.reduceLT, Int.reduceLT, Int.reduceLE, Int.reduceEq, z7, z8, z14, z15, z16, z17, z73, z74, z75, zH0, zH1, zH3, zH4, true_and, and_true, and_self, Int.natCast_add, Int.natCast_one, Int.natCast_zero, List.flatMap_nil, List.map_nil, List.append_nil, List.nil_append, encIds, cellsId])
   all_goals first | omega
  by_cases hm : m < (idsT u).length
  ·have hmem : (idsT u)[m] ∈ idsT u := List.getElem_mem hm
   generalize hkk : (idsT u)[m] = k at hmem
   obtain ⟨g1, g2⟩ := q4 k hmem
   have e1 := pc_FindR k u hsu
   have e2 := pc_FindR k v zv
   have e3 := pc_ParentR k u hsu
   have e4 := pc_ParentR k v zv
   have e5 := pc_alone8 (findR k u).1
   have e6 := pc_alone8 (findR k v).1
   have hfd := find_I k gone
   by_cases hgo : k ∈ gone
   ·rw [decide_eq_true hgo, Bool.not_true] at g1
    rw [if_pos hgo] at hfd
    rw [show findR k v = ((findR k v).1, false) from by rw [← g1]] at e2
    skip
    repeat' (first | refine zqj ?_ | ((first | refine zqh fun K hK => ?_ | refine zqe (by decide +kernel) fun K hK => ?_ | refine zqr fun K hK => ?_ | refine zqq (by decide +kernel) fun K hK => ?_ | refine zqs (e1) ?_ | refine zqt (e1) ?_ | refine zqs (e2) ?_ | refine zqt (e2) ?_ | refine zqs (e3) ?_ | refine zqt (e3) ?_ | refine zqs (e4) ?_ | refine zqt (e4) ?_); (simp (disch := omega) only [go_sem, Nat.reduceBEq, Nat.reduceBeqDiff, Nat.reduceEqDiff, ↓reduceIte, reduceCtorEq, Nat.reduceAdd, Nat.reduceMul, Nat.reduceLeDiff, Nat.reduceLT, Int.reduceLT, Int.reduceLE, Int.reduceEq, w7, w8, w14, w15, w17, w105, w106, w107, wH0, wH1, wH3, wH4, encIds, cellsId, hkk, hfd])) | ((first | refine zqd _ rfl (fun hc => ?_) (fun hc => ?_) | refine zqm _ rfl (fun hc => ?_) (fun hc => ?_)) <;> (first | (cases hc; done) | ((try simp only [boolS] at hc); (try (exfalso; omega))))) | refine zqa ?_ | refine zqi ?_ | refine zqb ?_ | refine zqg ?_ | refine zqc ?_ | refine zqk ?_ | refine zql ?_ | refine zqn ?_ | refine zqv ?_ | refine zqw ?_ | refine zqx ?_ | refine zqy ?_ | refine zqz ?_ | refine zqza rfl ?_ | refine zqzb ?_ | refine zqp ?_ | refine zqo ?_ | refine zqu (by (simp (disch := omega) only [go_sem, Nat.reduceBEq, Nat.reduceBeqDiff, Nat.reduceEqDiff, ↓reduceIte, reduceCtorEq, Nat.reduceAdd, Nat.reduceLeDiff, Nat.reduceLT, w7, w8, w14, w15, w17, w105, w106, w107, wH0, wH1, wH3, wH4, encIds, cellsId, hkk, hfd]); rfl) rfl ?_ | (refine hK _ ?_; clear hK K) | (refine zqf (fun hb => ?_) (fun hb => ?_) <;> (have hb2 := hb; try simp only [boolS] at hb2) <;> ((first | have hb3 : (_ : Bool) = _ := hb2 | have hb3 := eq_false hb2 | have hb3 := eq_true hb2); (simp (disch := omega) only [go_sem, Nat.reduceBEq, Nat.reduceBeqDiff, Nat.reduceEqDiff, ↓reduceIte, reduceCtorEq, Nat.reduceAdd, Nat.reduceMul, Nat.reduceLeDiff, Nat.reduceLT, Int.reduceLT, Int.reduceLE, Int.reduceEq, hb, hb3, w7, w8, w14, w15, w17, w105, w106, w107, wH0, wH1, wH3, wH4, encIds, cellsId, hkk, hfd]); clear hb hb3; (try (exfalso; omega)))) | (exfalso; omega))
    (refine Exists.intro _ (And.intro ?_ ⟨m + 1, rfl, ?_⟩)); rotate_left; (simp (disch := omega) only [go_sem, Nat.reduceBEq, Nat.reduceBeqDiff, Nat.reduceEqDiff, ↓reduceIte, reduceCtorEq, Nat.reduceAdd, Nat.reduceMul, Nat.reduceLeDiff, Nat.reduceLT, Int.reduceLT, Int.reduceLE, Int.reduceEq, w7, w8, w14, w15, w17, w105, w106, w107, wH0, wH1, wH3, wH4, true_and, and_true, and_self, Int.natCast_add, Int.natCast_one, Int.natCast_zero, List.flatMap_append, List.flatMap_cons, List.flatMap_nil, List.map_append, List.map_cons, List.map_nil, List.append_nil, List.cons_append, List.nil_append, encIds, cellsId]); rotate_left
    ·omega
    ·all_goals first | omega | exact ⟨by omega, by omega⟩
   ·rw [decide_eq_false hgo, Bool.not_false] at g1
    rw [if_neg hgo] at hfd
    have g3 := g2 g1
    by_cases hki : k = id
    ·subst hki
     skip
     repeat' (first | refine zqj ?_ | ((first | refine zqh fun K hK => ?_ | refine zqe (by decide +kernel) fun K hK => ?_ | refine zqr fun K hK => ?_ | refine zqq (by decide +kernel) fun K hK => ?_ | refine zqs (e1) ?_ | refine zqt (e1) ?_ | refine zqs (e2) ?_ | refine zqt (e2) ?_ | refine zqs (e3) ?_ | refine zqt (e3) ?_ | refine zqs (e4) ?_ | refine zqt (e4) ?_); (simp (disch := omega) only [go_sem, Nat.reduceBEq, Nat.reduceBeqDiff, Nat.reduceEqDiff, ↓reduceIte, reduceCtorEq, Nat.reduceAdd, Nat.reduceMul, Nat.reduceLeDiff, Nat.reduceLT, Int.reduceLT, Int.reduceLE, Int.reduceEq, w7, w8, w14, w15, w17, w105, w106, w107, wH0, wH1, wH3, wH4, encIds, cellsId, hkk, hfd, g1])) | ((first | refine zqd _ rfl (fun hc => ?_) (fun hc => ?_) | refine zqm _ rfl (fun hc => ?_) (fun hc => ?_)) <;> (first | (cases hc; done) | ((try simp only [boolS] at hc); (try (exfalso; omega))))) | refine zqa ?_ | refine zqi ?_ | refine zqb ?_ | refine zqg ?_ | refine zqc ?_ | refine zqk ?_ | refine zql ?_ | refine zqn ?_ | refine zqv ?_ | refine zqw ?_ | refine zqx ?_ | refine zqy ?_ | refine zqz ?_ | refine zqza rfl ?_ | refine zqzb ?_ | refine zqp ?_ | refine zqo ?_ | refine zqu (by (simp (disch := omega) only [go_sem, Nat.reduceBEq, Nat.reduceBeqDiff, Nat.reduceEqDiff, ↓reduceIte, reduceCtorEq, Nat.reduceAdd, Nat.reduceLeDiff, Nat.reduceLT, w7, w8, w14, w15, w17, w105, w106, w107, wH0, wH1, wH3, wH4, encIds, cellsId, hkk, hfd, g1]); rfl) rfl ?_ | (refine hK _ ?_; clear hK K) | (refine zqf (fun hb => ?_) (fun hb => ?_) <;> (have hb2 := hb; try simp only [boolS] at hb2) <;> ((first | have hb3 : (_ : Bool) = _ := hb2 | have hb3 := eq_false hb2 | have hb3 := eq_true hb2); (simp (disch := omega) only [go_sem, Nat.reduceBEq, Nat.reduceBeqDiff, Nat.reduceEqDiff, ↓reduceIte, reduceCtorEq, Nat.reduceAdd, Nat.reduceMul, Nat.reduceLeDiff, Nat.reduceLT, Int.reduceLT, Int.reduceLE, Int.reduceEq, hb, hb3, w7, w8, w14, w15, w17, w105, w106, w107, wH0, wH1, wH3, wH4, encIds, cellsId, hkk, hfd, g1]); clear hb hb3; (try (exfalso; omega)))) | (exfalso; omega))
     (refine Exists.intro _ (And.intro ?_ ⟨m + 1, rfl, ?_⟩)); rotate_left; (simp (disch := omega) only [go_sem, Nat.reduceBEq, Nat.reduceBeqDiff, Nat.reduceEqDiff, ↓reduceIte, reduceCtorEq, Nat.reduceAdd, Nat.reduceMul, Nat.reduceLeDiff, Nat.reduceLT, Int.reduceLT, Int.reduceLE, Int.reduceEq, w7, w8, w14, w15, w17, w105, w106, w107, wH0, wH1, wH3, wH4, true_and, and_true, and_self, Int.natCast_add, Int.natCast_one, Int.natCast_zero, List.flatMap_append, List.flatMap_cons, List.flatMap_nil, List.map_append, List.map_cons, List.map_nil, List.append_nil, List.cons_append, List.nil_append, encIds, cellsId]); rotate_left
     ·omega
     ·all_goals first | omega | exact ⟨by omega, by omega⟩
    ·obtain ⟨g4, g5⟩ := g3 hki
     have e7 := pc_Same (aloneT (findR k u).1) (sz_alone (sz_find k u hsu)) (aloneT (findR k v).1) (sz_alone (sz_find k v zv))
     rw [decide_eq_true g4] at e7
     skip
     repeat' (first | refine zqj ?_ | ((first | refine zqh fun K hK => ?_ | refine zqe (by decide +kernel) fun K hK => ?_ | refine zqr fun K hK => ?_ | refine zqq (by decide +kernel) fun K hK => ?_ | refine zqs (e1) ?_ | refine zqt (e1) ?_ | refine zqs (e2) ?_ | refine zqt (e2) ?_ | refine zqs (e3) ?_ | refine zqt (e3) ?_ | refine zqs (e4) ?_ | refine zqt (e4) ?_ | refine zqs (e5) ?_ | refine zqt (e5) ?_ | refine zqs (e6) ?_ | refine zqt (e6) ?_ | refine zqs (e7) ?_ | refine zqt (e7) ?_); (simp (disch := omega) only [go_sem, Nat.reduceBEq, Nat.reduceBeqDiff, Nat.reduceEqDiff, ↓reduceIte, reduceCtorEq, Nat.reduceAdd, Nat.reduceMul, Nat.reduceLeDiff, Nat.reduceLT, Int.reduceLT, Int.reduceLE, Int.reduceEq, w7, w8, w14, w15, w17, w105, w106, w107, wH0, wH1, wH3, wH4, encIds, cellsId, hkk, hfd, g1, g5, hki])) | ((first | refine zqd _ rfl (fun hc => ?_) (fun hc => ?_) | refine zqm _ rfl (fun hc => ?_) (fun hc => ?_)) <;> (first | (cases hc; done) | ((try simp only [boolS] at hc); (try (exfalso; omega))))) | refine zqa ?_ | refine zqi ?_ | refine zqb ?_ | refine zqg ?_ | refine zqc ?_ | refine zqk ?_ | refine zql ?_ | refine zqn ?_ | refine zqv ?_ | refine zqw ?_ | refine zqx ?_ | refine zqy ?_ | refine zqz ?_ | refine zqza rfl ?_ | refine zqzb ?_ | refine zqp ?_ | refine zqo ?_ | refine zqu (by (simp (disch := omega) only [go_sem, Nat.reduceBEq, Nat.reduceBeqDiff, Nat.reduceEqDiff, ↓reduceIte, reduceCtorEq, Nat.reduceAdd, Nat.reduceLeDiff, Nat.reduceLT, w7, w8, w14, w15, w17, w105, w106, w107, wH0, wH1, wH3, wH4, encIds, cellsId, hkk, hfd, g1, g5, hki]); rfl) rfl ?_ | (refine hK _ ?_; clear hK K) | (refine zqf (fun hb => ?_) (fun hb => ?_) <;> (have hb2 := hb; try simp only [boolS] at hb2) <;> ((first | have hb3 : (_ : Bool) = _ := hb2 | have hb3 := eq_false hb2 | have hb3 := eq_true hb2); (simp (disch := omega) only [go_sem, Nat.reduceBEq, Nat.reduceBeqDiff, Nat.reduceEqDiff, ↓reduceIte, reduceCtorEq, Nat.reduceAdd, Nat.reduceMul, Nat.reduceLeDiff, Nat.reduceLT, Int.reduceLT, Int.reduceLE, Int.reduceEq, hb, hb3, w7, w8, w14, w15, w17, w105, w106, w107, wH0, wH1, wH3, wH4, encIds, cellsId, hkk, hfd, g1, g5, hki]); clear hb hb3; (try (exfalso; omega)))) | (exfalso; omega))
     (refine Exists.intro _ (And.intro ?_ ⟨m + 1, rfl, ?_⟩)); rotate_left; (simp (disch := omega) only [go_sem, Nat.reduceBEq, Nat.reduceBeqDiff, Nat.reduceEqDiff, ↓reduceIte, reduceCtorEq, Nat.reduceAdd, Nat.reduceMul, Nat.reduceLeDiff, Nat.reduceLT, Int.reduceLT, Int.reduceLE, Int.reduceEq, w7, w8, w14, w15, w17, w105, w106, w107, wH0, wH1, wH3, wH4, true_and, and_true, and_self, Int.natCast_add, Int.natCast_one, Int.natCast_zero, List.flatMap_append, List.flatMap_cons, List.flatMap_nil, List.map_append, List.map_cons, List.map_nil, List.append_nil, List.cons_append, List.nil_append, encIds, cellsId]); rotate_left
     ·omega
     ·all_goals first | omega | exact ⟨by omega, by omega⟩
  ·have hme : m = (idsT u).length := by omega
   subst hme
   have hsl : (setI gone).length = gone.length := by unfold setI; simp
   skip
   repeat' (first | refine zqj ?_ | ((first | refine zqh fun K hK => ?_ | refine zqe (by decide +kernel) fun K hK => ?_ | refine zqr fun K hK => ?_ | refine zqq (by decide +kernel) fun K hK => ?_ | refine zqs (ha) ?_ | refine zqt (ha) ?_ | refine zqs (d2) ?_ | refine zqt (d2) ?_ | refine zqs (d3) ?_ | refine zqt (d3) ?_ | refine zqs (d4) ?_ | refine zqt (d4) ?_); (simp (disch := omega) only [go_sem, Nat.reduceBEq, Nat.reduceBeqDiff, Nat.reduceEqDiff, ↓reduceIte, reduceCtorEq, Nat.reduceAdd, Nat.reduceMul, Nat.reduceLeDiff, Nat.reduceLT, Int.reduceLT, Int.reduceLE, Int.reduceEq, w7, w8, w14, w15, w17, w105, w106, w107, wH0, wH1, wH3, wH4, encIds, cellsId, hsl])) | ((first | refine zqd _ rfl (fun hc => ?_) (fun hc => ?_) | refine zqm _ rfl (fun hc => ?_) (fun hc => ?_)) <;> (first | (cases hc; done) | ((try simp only [boolS] at hc); (try (exfalso; omega))))) | refine zqa ?_ | refine zqi ?_ | refine zqb ?_ | refine zqg ?_ | refine zqc ?_ | refine zqk ?_ | refine zql ?_ | refine zqn ?_ | refine zqv ?_ | refine zqw ?_ | refine zqx ?_ | refine zqy ?_ | refine zqz ?_ | refine zqza rfl ?_ | refine zqzb ?_ | refine zqp ?_ | refine zqo ?_ | refine zqu (by (simp (disch := omega) only [go_sem, Nat.reduceBEq, Nat.reduceBeqDiff, Nat.reduceEqDiff, ↓reduceIte, reduceCtorEq, Nat.reduceAdd, Nat.reduceLeDiff, Nat.reduceLT, w7, w8, w14, w15, w17, w105, w106, w107, wH0, wH1, wH3, wH4, encIds, cellsId, hsl]); rfl) rfl ?_ | (refine hK _ ?_; clear hK K) | (refine zqf (fun hb => ?_) (fun hb => ?_) <;> (have hb2 := hb; try simp only [boolS] at hb2) <;> ((first | have hb3 : (_ : Bool) = _ := hb2 | have hb3 := eq_false hb2 | have hb3 := eq_true hb2); (simp (disch := omega) only [go_sem, Nat.reduceBEq, Nat.reduceBeqDiff, Nat.reduceEqDiff, ↓reduceIte, reduceCtorEq, Nat.reduceAdd, Nat.reduceMul, Nat.reduceLeDiff, Nat.reduceLT, Int.reduceLT, Int.reduceLE, Int.reduceEq, hb, hb3, w7, w8, w14, w15, w17, w105, w106, w107, wH0, wH1, wH3, wH4, encIds, cellsId, hsl]); clear hb hb3; (try (exfalso; omega)))) | (exfalso; omega))
   all_goals first | exact fin_bool (decide_eq_true (by omega)) | exact fin_bool rfl
 ·skip
  repeat' (first | refine zqj ?_ | ((first | refine zqh fun K hK => ?_ | refine zqe (by decide +kernel) fun K hK => ?_ | refine zqr fun K hK => ?_ | refine zqq (by decide +kernel) fun K hK => ?_ | refine zqs (ha) ?_ | refine zqt (ha) ?_); (simp (disch := omega) only [go_sem, Nat.reduceBEq, Nat.reduceBeqDiff, Nat.reduceEqDiff, ↓reduceIte, reduceCtorEq, Nat.reduceAdd, Nat.reduceMul, Nat.reduceLeDiff, Nat.reduceLT, Int.reduceLT, Int.reduceLE, Int.reduceEq, z7, z8, z14, z15, z16, z17, z73, z74, z75, zH0, zH1, zH3, zH4, encIds, cellsId, he0])) | ((first | refine zqd _ rfl (fun hc => ?_) (fun hc => ?_) | refine zqm _ rfl (fun hc => ?_) (fun hc => ?_)) <;> (first | (cases hc; done) | ((try simp only [boolS] at hc); (try (exfalso; omega))))) | refine zqa ?_ | refine zqi ?_ | refine zqb ?_ | refine zqg ?_ | refine zqc ?_ | refine zqk ?_ | refine zql ?_ | refine zqn ?_ | refine zqv ?_ | refine zqw ?_ | refine zqx ?_ | refine zqy ?_ | refine zqz ?_ | refine zqza rfl ?_ | refine zqzb ?_ | refine zqp ?_ | refine zqo ?_ | refine zqu (by (simp (disch := omega) only [go_sem, Nat.reduceBEq, Nat.reduceBeqDiff, Nat.reduceEqDiff, ↓reduceIte, reduceCtorEq, Nat.reduceAdd, Nat.reduceLeDiff, Nat.reduceLT, z7, z8, z14, z15, z16, z17, z73, z74, z75, zH0, zH1, zH3, zH4, encIds, cellsId, he0]); rfl) rfl ?_ | (refine hK _ ?_; clear hK K) | (refine zqf (fun hb => ?_) (fun hb => ?_) <;> (have hb2 := hb; try simp only [boolS] at hb2) <;> ((first | have hb3 : (_ : Bool) = _ := hb2 | have hb3 := eq_false hb2 | have hb3 := eq_true hb2); (simp (disch := omega) only [go_sem, Nat.reduceBEq, Nat.reduceBeqDiff, Nat.reduceEqDiff, ↓reduceIte, reduceCtorEq, Nat.reduceAdd, Nat.reduceMul, Nat.reduceLeDiff, Nat.reduceLT, Int.reduceLT, Int.reduceLE, Int.reduceEq, hb, hb3, z7, z8, z14, z15, z16, z17, z73, z74, z75, zH0, zH1, zH3, zH4, encIds, cellsId, he0]); clear hb hb3; (try (exfalso; omega)))) | (exfalso; omega))
  all_goals first | exact fin_bool rfl
theorem pc_LawLeavesRest (u : T) (hfu : fitB u = true) (id parent : Idv) (i : Int) (name : ByteArray) (l : List Wd) (hl : l.length ≤ maxLen) (hw : ∀ w ∈ l, w.text.size ≤ maxLen) (kd : Int) (hkd : 0 ≤ kd ∧ kd ≤ 255) :
  PC Tryz.prog 8 [encU u, encId id, encId parent, .int .i64 i, .str name, encWs l, .int .u8 kd] (.bool true) := by
 by_cases h1 : fewB u 30 = true
 ·by_cases h2 : name.size ≤ 60
  ·by_cases h3 : l.length ≤ 60
   ·by_cases h4 : standsT u = true
    ·by_cases k0 : kd.tmod 4 = 0
     ·exact leaves0 u hfu id parent i name l hl hw kd hkd h1 h2 h3 h4 k0
     by_cases k1 : kd.tmod 4 = 1
     ·exact leaves1 u hfu id parent i name l hl hw kd hkd h1 h2 h3 h4 k1
     by_cases k2 : kd.tmod 4 = 2
     ·exact leaves2 u hfu id parent i name l hl hw kd hkd h1 h2 h3 h4 k2
     exact leaves3 u hfu id parent i name l hl hw kd hkd h1 h2 h3 h4 k0 k1 k2
    all_goals skip
    have ha := pc_awake8
    have hf1 := pc_Few u hfu 30 (by omega) (by omega)
    obtain ⟨hsu, hcu, hdu⟩ := few_sz (by omega) (by omega) h1
    have c1 := pc_StandsR u hsu (by omega) (by omega)
    rw [Bool.not_eq_true] at h4
    rw [h4] at c1
    rw [h1] at hf1
    refine zqzd 1 (by simp only [pureD.pureL, pure_encU, pure_encWs, pureD, Bool.and_self]; rfl) rfl (zqze [] Tryz.func8 rfl (by decide +kernel) mixed (by decide +kernel) (by simp [Tryz.ntmps8]) ?_)
    show awp _ _ (Code.seq _ _) _ _
    skip
    repeat' (first | refine zqj ?_ | ((first | refine zqh fun K hK => ?_ | refine zqe (by decide +kernel) fun K hK => ?_ | refine zqr fun K hK => ?_ | refine zqq (by decide +kernel) fun K hK => ?_ | refine zqs (ha) ?_ | refine zqt (ha) ?_ | refine zqs (hf1) ?_ | refine zqt (hf1) ?_ | refine zqs (c1) ?_ | refine zqt (c1) ?_); (simp (disch := omega) only [go_sem, Nat.reduceBEq, Nat.reduceBeqDiff, Nat.reduceEqDiff, ↓reduceIte, reduceCtorEq, Nat.reduceAdd, Nat.reduceMul, Nat.reduceLeDiff, Nat.reduceLT, Int.reduceLT, Int.reduceLE, Int.reduceEq, cellsId, encWs])) | ((first | refine zqd _ rfl (fun hc => ?_) (fun hc => ?_) | refine zqm _ rfl (fun hc => ?_) (fun hc => ?_)) <;> (first | (cases hc; done) | ((try simp only [boolS] at hc); (try (exfalso; omega))))) | refine zqa ?_ | refine zqi ?_ | refine zqb ?_ | refine zqg ?_ | refine zqc ?_ | refine zqk ?_ | refine zql ?_ | refine zqn ?_ | refine zqv ?_ | refine zqw ?_ | refine zqx ?_ | refine zqy ?_ | refine zqz ?_ | refine zqza rfl ?_ | refine zqzb ?_ | refine zqp ?_ | refine zqo ?_ | refine zqu (by (simp (disch := omega) only [go_sem, Nat.reduceBEq, Nat.reduceBeqDiff, Nat.reduceEqDiff, ↓reduceIte, reduceCtorEq, Nat.reduceAdd, Nat.reduceLeDiff, Nat.reduceLT, cellsId, encWs]); rfl) rfl ?_ | (refine hK _ ?_; clear hK K) | (refine zqf (fun hb => ?_) (fun hb => ?_) <;> (have hb2 := hb; try simp only [boolS] at hb2) <;> ((first | have hb3 : (_ : Bool) = _ := hb2 | have hb3 := eq_false hb2 | have hb3 := eq_true hb2); (simp (disch := omega) only [go_sem, Nat.reduceBEq, Nat.reduceBeqDiff, Nat.reduceEqDiff, ↓reduceIte, reduceCtorEq, Nat.reduceAdd, Nat.reduceMul, Nat.reduceLeDiff, Nat.reduceLT, Int.reduceLT, Int.reduceLE, Int.reduceEq, hb, hb3, cellsId, encWs]); clear hb hb3; (try (exfalso; omega)))) | (exfalso; omega))
    all_goals first | exact fin_bool rfl
   all_goals skip
   have ha := pc_awake8
   have hf1 := pc_Few u hfu 30 (by omega) (by omega)
   rw [h1] at hf1
   refine zqzd 1 (by simp only [pureD.pureL, pure_encU, pure_encWs, pureD, Bool.and_self]; rfl) rfl (zqze [] Tryz.func8 rfl (by decide +kernel) mixed (by decide +kernel) (by simp [Tryz.ntmps8]) ?_)
   show awp _ _ (Code.seq _ _) _ _
   skip
   repeat' (first | refine zqj ?_ | ((first | refine zqh fun K hK => ?_ | refine zqe (by decide +kernel) fun K hK => ?_ | refine zqr fun K hK => ?_ | refine zqq (by decide +kernel) fun K hK => ?_ | refine zqs (ha) ?_ | refine zqt (ha) ?_ | refine zqs (hf1) ?_ | refine zqt (hf1) ?_); (simp (disch := omega) only [go_sem, Nat.reduceBEq, Nat.reduceBeqDiff, Nat.reduceEqDiff, ↓reduceIte, reduceCtorEq, Nat.reduceAdd, Nat.reduceMul, Nat.reduceLeDiff, Nat.reduceLT, Int.reduceLT, Int.reduceLE, Int.reduceEq, cellsId, encWs])) | ((first | refine zqd _ rfl (fun hc => ?_) (fun hc => ?_) | refine zqm _ rfl (fun hc => ?_) (fun hc => ?_)) <;> (first | (cases hc; done) | ((try simp only [boolS] at hc); (try (exfalso; omega))))) | refine zqa ?_ | refine zqi ?_ | refine zqb ?_ | refine zqg ?_ | refine zqc ?_ | refine zqk ?_ | refine zql ?_ | refine zqn ?_ | refine zqv ?_ | refine zqw ?_ | refine zqx ?_ | refine zqy ?_ | refine zqz ?_ | refine zqza rfl ?_ | refine zqzb ?_ | refine zqp ?_ | refine zqo ?_ | refine zqu (by (simp (disch := omega) only [go_sem, Nat.reduceBEq, Nat.reduceBeqDiff, Nat.reduceEqDiff, ↓reduceIte, reduceCtorEq, Nat.reduceAdd, Nat.reduceLeDiff, Nat.reduceLT, cellsId, encWs]); rfl) rfl ?_ | (refine hK _ ?_; clear hK K) | (refine zqf (fun hb => ?_) (fun hb => ?_) <;> (have hb2 := hb; try simp only [boolS] at hb2) <;> ((first | have hb3 : (_ : Bool) = _ := hb2 | have hb3 := eq_false hb2 | have hb3 := eq_true hb2); (simp (disch := omega) only [go_sem, Nat.reduceBEq, Nat.reduceBeqDiff, Nat.reduceEqDiff, ↓reduceIte, reduceCtorEq, Nat.reduceAdd, Nat.reduceMul, Nat.reduceLeDiff, Nat.reduceLT, Int.reduceLT, Int.reduceLE, Int.reduceEq, hb, hb3, cellsId, encWs]); clear hb hb3; (try (exfalso; omega)))) | (exfalso; omega))
   all_goals first | exact fin_bool rfl
  all_goals skip
  have ha := pc_awake8
  have hf1 := pc_Few u hfu 30 (by omega) (by omega)
  rw [h1] at hf1
  refine zqzd 1 (by simp only [pureD.pureL, pure_encU, pure_encWs, pureD, Bool.and_self]; rfl) rfl (zqze [] Tryz.func8 rfl (by decide +kernel) mixed (by decide +kernel) (by simp [Tryz.ntmps8]) ?_)
  show awp _ _ (Code.seq _ _) _ _
  skip
  repeat' (first | refine zqj ?_ | ((first | refine zqh fun K hK => ?_ | refine zqe (by decide +kernel) fun K hK => ?_ | refine zqr fun K hK => ?_ | refine zqq (by decide +kernel) fun K hK => ?_ | refine zqs (ha) ?_ | refine zqt (ha) ?_ | refine zqs (hf1) ?_ | refine zqt (hf1) ?_); (simp (disch := omega) only [go_sem, Nat.reduceBEq, Nat.reduceBeqDiff, Nat.reduceEqDiff, ↓reduceIte, reduceCtorEq, Nat.reduceAdd, Nat.reduceMul, Nat.reduceLeDiff, Nat.reduceLT, Int.reduceLT, Int.reduceLE, Int.reduceEq, cellsId, encWs])) | ((first | refine zqd _ rfl (fun hc => ?_) (fun hc => ?_) | refine zqm _ rfl (fun hc => ?_) (fun hc => ?_)) <;> (first | (cases hc; done) | ((try simp only [boolS] at hc); (try (exfalso; omega))))) | refine zqa ?_ | refine zqi ?_ | refine zqb ?_ | refine zqg ?_ | refine zqc ?_ | refine zqk ?_ | refine zql ?_ | refine zqn ?_ | refine zqv ?_ | refine zqw ?_ | refine zqx ?_ | refine zqy ?_ | refine zqz ?_ | refine zqza rfl ?_ | refine zqzb ?_ | refine zqp ?_ | refine zqo ?_ | refine zqu (by (simp (disch := omega) only [go_sem, Nat.reduceBEq, Nat.reduceBeqDiff, Nat.reduceEqDiff, ↓reduceIte, reduceCtorEq, Nat.reduceAdd, Nat.reduceLeDiff, Nat.reduceLT, cellsId, encWs]); rfl) rfl ?_ | (refine hK _ ?_; clear hK K) | (refine zqf (fun hb => ?_) (fun hb => ?_) <;> (have hb2 := hb; try simp only [boolS] at hb2) <;> ((first | have hb3 : (_ : Bool) = _ := hb2 | have hb3 := eq_false hb2 | have hb3 := eq_true hb2); (simp (disch := omega) only [go_sem, Nat.reduceBEq, Nat.reduceBeqDiff, Nat.reduceEqDiff, ↓reduceIte, reduceCtorEq, Nat.reduceAdd, Nat.reduceMul, Nat.reduceLeDiff, Nat.reduceLT, Int.reduceLT, Int.reduceLE, Int.reduceEq, hb, hb3, cellsId, encWs]); clear hb hb3; (try (exfalso; omega)))) | (exfalso; omega))
  all_goals first | exact fin_bool rfl
 ·have ha := pc_awake8
  have hf1 := pc_Few u hfu 30 (by omega) (by omega)
  rw [Bool.not_eq_true] at h1
  rw [h1] at hf1
  refine zqzd 1 (by simp only [pureD.pureL, pure_encU, pure_encWs, pureD, Bool.and_self]; rfl) rfl (zqze [] Tryz.func8 rfl (by decide +kernel) mixed (by decide +kernel) (by simp [Tryz.ntmps8]) ?_)
  show awp _ _ (Code.seq _ _) _ _
  skip
  repeat' (first | refine zqj ?_ | ((first | refine zqh fun K hK => ?_ | refine zqe (by decide +kernel) fun K hK => ?_ | refine zqr fun K hK => ?_ | refine zqq (by decide +kernel) fun K hK => ?_ | refine zqs (ha) ?_ | refine zqt (ha) ?_ | refine zqs (hf1) ?_ | refine zqt (hf1) ?_); (simp (disch := omega) only [go_sem, Nat.reduceBEq, Nat.reduceBeqDiff, Nat.reduceEqDiff, ↓reduceIte, reduceCtorEq, Nat.reduceAdd, Nat.reduceMul, Nat.reduceLeDiff, Nat.reduceLT, Int.reduceLT, Int.reduceLE, Int.reduceEq, cellsId, encWs])) | ((first | refine zqd _ rfl (fun hc => ?_) (fun hc => ?_) | refine zqm _ rfl (fun hc => ?_) (fun hc => ?_)) <;> (first | (cases hc; done) | ((try simp only [boolS] at hc); (try (exfalso; omega))))) | refine zqa ?_ | refine zqi ?_ | refine zqb ?_ | refine zqg ?_ | refine zqc ?_ | refine zqk ?_ | refine zql ?_ | refine zqn ?_ | refine zqv ?_ | refine zqw ?_ | refine zqx ?_ | refine zqy ?_ | refine zqz ?_ | refine zqza rfl ?_ | refine zqzb ?_ | refine zqp ?_ | refine zqo ?_ | refine zqu (by (simp (disch := omega) only [go_sem, Nat.reduceBEq, Nat.reduceBeqDiff, Nat.reduceEqDiff, ↓reduceIte, reduceCtorEq, Nat.reduceAdd, Nat.reduceLeDiff, Nat.reduceLT, cellsId, encWs]); rfl) rfl ?_ | (refine hK _ ?_; clear hK K) | (refine zqf (fun hb => ?_) (fun hb => ?_) <;> (have hb2 := hb; try simp only [boolS] at hb2) <;> ((first | have hb3 : (_ : Bool) = _ := hb2 | have hb3 := eq_false hb2 | have hb3 := eq_true hb2); (simp (disch := omega) only [go_sem, Nat.reduceBEq, Nat.reduceBeqDiff, Nat.reduceEqDiff, ↓reduceIte, reduceCtorEq, Nat.reduceAdd, Nat.reduceMul, Nat.reduceLeDiff, Nat.reduceLT, Int.reduceLT, Int.reduceLE, Int.reduceEq, hb, hb3, cellsId, encWs]); clear hb hb3; (try (exfalso; omega)))) | (exfalso; omega))
  all_goals first | exact fin_bool rfl
end Go.Proofs.YtkhjpcmpljpmjaaGreatDoor
