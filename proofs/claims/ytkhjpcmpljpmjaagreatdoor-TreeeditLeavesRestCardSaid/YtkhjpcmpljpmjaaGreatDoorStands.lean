/-
 What stands after an edit: validity, identifiers, sizes. Plain. No condition.
-/
import Derived.Test.YtkhjpcmpljpmjaaGreatDoorEdits
import Derived.Test.YtkhjpcmpljpmjaaGreatDoorEditA
set_option linter.unusedSimpArgs false
set_option linter.unusedVariables false
namespace Go.Proofs.YtkhjpcmpljpmjaaGreatDoor
open Abs Facts Tr
namespace Tr
theorem nest0 (p : Int) : nestsB p 0 = false := by
 by_cases h : 0 ≤ p ∧ p < 8
 ·rcases kind8 h with rfl | rfl | rfl | rfl | rfl | rfl | rfl | rfl <;> decide
 ·exact if_neg h
def namedT (t : T) : Bool := recT (fun t l => (decide (t.kind = 0) || decide (t.id ≠ Idv.zero)) && l.all id) t
theorem namedT_eq (t : T) : namedT t = ((decide (t.kind = 0) || decide (t.id ≠ Idv.zero)) && t.kids.all namedT) := by
 unfold namedT; rw [recT_eq, List.all_map]; rfl
theorem right_kid {t : T} (h : rightT t = true) : ∀ k ∈ t.kids, nestsB t.kind k.kind = true ∧ rightT k = true := fun k hk => by
 rw [rightT_eq] at h
 simp only [Bool.and_eq_true, List.all_eq_true] at h
 exact ⟨h.2.1 k hk, h.2.2.1 k hk⟩
theorem kid_no0 {t : T} (h : rightT t = true) : ∀ k ∈ t.kids, k.kind ≠ 0 := fun k hk e => by
 have := (right_kid h k hk).1
 rw [e, nest0] at this; cases this
theorem named_right : ∀ t : T, rightT t = true → (namedT t = true ↔ (t.kind = 0 ∨ t.id ≠ Idv.zero) ∧ Idv.zero ∉ t.kids.flatMap idsT) := by
 refine ind1 fun t ih h => ?_
 rw [namedT_eq]
 simp only [Bool.and_eq_true, Bool.or_eq_true, decide_eq_true_eq, List.all_eq_true]
 refine and_congr_right fun _ => ?_
 constructor
 ·intro hk hm
  obtain ⟨k, hkm, hz⟩ := List.mem_flatMap.1 hm
  obtain ⟨g1, g2⟩ := (ih k hkm (right_kid h k hkm).2).1 (hk k hkm)
  rw [idsT_eq, List.mem_cons] at hz
  rcases hz with hz | hz
  ·rcases g1 with g1 | g1
   ·exact kid_no0 h k hkm g1
   ·exact g1 hz.symm
  ·exact g2 hz
 ·intro hz k hkm
  refine (ih k hkm (right_kid h k hkm).2).2 ⟨.inr fun e => hz (List.mem_flatMap.2 ⟨k, hkm, e ▸ id_self k⟩), fun hm => hz (List.mem_flatMap.2 ⟨k, hkm, ?_⟩)⟩
  rw [idsT_eq]; exact List.mem_cons_of_mem _ hm
theorem any_zero (l : List Idv) : (l.any fun x => decide (x = Idv.zero)) = decide (Idv.zero ∈ l) := by
 rw [Bool.eq_iff_iff, List.any_eq_true, decide_eq_true_eq]
 constructor
 ·rintro ⟨x, hx, h⟩; rw [decide_eq_true_eq] at h; exact h ▸ hx
 ·exact fun h => ⟨_, h, decide_eq_true rfl⟩
theorem ids_tail (t : T) : (idsT t).drop 1 = t.kids.flatMap idsT := by rw [idsT_eq]; rfl
theorem stands_named (t : T) : standsT t = (validT t && namedT t) := by
 unfold standsT
 by_cases hv : validT t = true
 ·have hr : rightT t = true := by unfold validT at hv; simp only [Bool.and_eq_true] at hv; exact hv.1
  rw [hv, Bool.true_and, Bool.true_and, any_zero, Bool.eq_iff_iff, named_right t hr]
  simp only [Bool.not_eq_true', decide_eq_false_iff_not]
  by_cases h0 : t.kind = 0
  ·rw [if_pos h0, ids_tail]
   exact ⟨fun h => ⟨.inl h0, h⟩, fun h => h.2⟩
  ·rw [if_neg h0, idsT_eq, List.mem_cons]
   exact ⟨fun h => ⟨.inr fun e => h (.inl e.symm), fun hm => h (.inr hm)⟩, fun ⟨h1, h2⟩ hm => by
    rcases hm with hm | hm
    ·rcases h1 with h1 | h1
     ·exact h0 h1
     ·exact h1 hm.symm
    ·exact h2 hm⟩
 ·rw [Bool.not_eq_true] at hv; rw [hv]; rfl
theorem stands_iff (t : T) : standsT t = true ↔ rightT t = true ∧ depT t ≤ 8 ∧ cntT t ≤ 1024 ∧ (idsT t).Nodup ∧ (t.id = Idv.zero ↔ t.kind = 0) ∧ Idv.zero ∉ t.kids.flatMap idsT := by
 rw [stands_named, Bool.and_eq_true]
 unfold validT idsB
 simp only [Bool.and_eq_true, decide_eq_true_eq, Bool.or_eq_true]
 constructor
 ·rintro ⟨⟨h1, h2, h3, h4⟩, h5⟩
  rw [named_right t h1] at h5
  refine ⟨h1, h2, h3, ?_⟩
  rcases h4 with h4 | ⟨h4, h4'⟩
  ·have ha : ∀ i ∈ idsT t, i = Idv.zero := fun i hi => by simpa using List.all_eq_true.1 h4 i hi
   have h0 : t.id = Idv.zero := ha _ (id_self t)
   have hk : t.kind = 0 := by
    rcases h5.1 with h | h
    ·exact h
    ·exact (h h0).elim
   have hn : t.kids.flatMap idsT = [] := by
    cases hl : t.kids.flatMap idsT with
    | nil => rfl
    | cons i l =>
     exfalso
     refine h5.2 ?_
     have : i = Idv.zero := ha i (by rw [idsT_eq, hl]; simp)
     rw [hl, this]; exact List.mem_cons_self
   rw [idsT_eq, hn]
   exact ⟨by simp, ⟨fun _ => hk, fun _ => h0⟩, by simp⟩
  ·exact ⟨h4', h4, h5.2⟩
 ·rintro ⟨h1, h2, h3, h4, h5, h6⟩
  refine ⟨⟨h1, h2, h3, .inr ⟨h5, h4⟩⟩, (named_right t h1).2 ⟨?_, h6⟩⟩
  by_cases h0 : t.kind = 0
  ·exact .inl h0
  ·exact .inr fun e => h0 (h5.1 e)
theorem alone_set {t : T} (h : aloneR t = true) {m : List T} (hm : m.length ≤ 64) : aloneR (t.setKids m) = true := by
 unfold aloneR at h ⊢
 simp only [Bool.and_eq_true, decide_eq_true_eq] at h ⊢
 exact ⟨h.1, hm, h.2.2⟩
theorem alone_len {t : T} (h : rightT t = true) : aloneR t = true ∧ t.kids.length ≤ 64 := by
 rw [rightT_eq] at h
 simp only [Bool.and_eq_true] at h
 refine ⟨h.1, ?_⟩
 have := h.1
 unfold aloneR at this
 simp only [Bool.and_eq_true, decide_eq_true_eq] at this
 exact this.2.1
theorem taken_no {l : List T} {x : T} : takenT l x.kind x.label = false ↔ keyK x ∉ l.map keyK := by
 unfold takenT
 rw [List.any_eq_false]
 simp only [Bool.and_eq_true, decide_eq_true_eq, List.mem_map, not_exists, not_and]
 constructor
 ·intro h k hk e
  exact h k hk (congrArg Prod.fst e) (congrArg Prod.snd e)
 ·intro h k hk e1 e2
  exact h k hk (by unfold keyK; rw [e1, e2])
theorem dep_mid (q x : T) (l r : List T) : depT (q.setKids (l ++ x :: r)) = max (depT (q.setKids (l ++ r))) (1 + depT x) := by
 rw [depT_eq, depT_eq (q.setKids (l ++ r))]
 show depF ((l ++ x :: r).map depT) = max (depF ((l ++ r).map depT)) _
 rw [List.map_append, List.map_cons, depF_append, depF_cons, List.map_append, depF_append]; omega
theorem cnt_mid (q x : T) (l r : List T) : cntT (q.setKids (l ++ x :: r)) = cntT (q.setKids (l ++ r)) + cntT x := by
 rw [← idsT_len, ← idsT_len, ← idsT_len, ids_set, ids_set, List.flatMap_append, List.flatMap_cons, List.flatMap_append]
 simp only [List.length_cons, List.length_append]; omega
theorem root_plug (C : Ctx) {x y : T} (h1 : x.id = y.id) (h2 : x.kind = y.kind) : (plug C x).id = (plug C y).id ∧ (plug C x).kind = (plug C y).kind := by
 cases C with
 | hole => exact ⟨h1, h2⟩
 | node t l c r => exact ⟨rfl, rfl⟩
theorem kids_ids (C : Ctx) (x : T) : (plug C x).kids.flatMap idsT = (preC C ++ (idsT x ++ postC C)).drop 1 := by rw [← ids_tail, ids_plug]
theorem stands_ins {C : Ctx} {q x : T} {l r : List T} (hu : standsT (plug C (q.setKids (l ++ r))) = true) (hx : standsT x = true) (hk : x.kind ≠ 0) (hn : nestsB q.kind x.kind = true) (ht : takenT (l ++ r) x.kind x.label = false)
  (h64 : (l ++ r).length < 64) (hd : lenC C + 1 + depT x ≤ 8) (hc : cntT (plug C (q.setKids (l ++ r))) + cntT x ≤ 1024) (hs : ∀ i ∈ idsT x, i ∉ idsT (plug C (q.setKids (l ++ r)))) : standsT (plug C (q.setKids (l ++ x :: r))) = true := by
 rw [stands_iff] at hu hx ⊢
 obtain ⟨u1, u2, u3, u4, u5, u6⟩ := hu
 obtain ⟨x1, x2, x3, x4, x5, x6⟩ := hx
 rw [right_plug] at u1
 obtain ⟨hr, hp⟩ := root_plug C (x := q.setKids (l ++ x :: r)) (y := q.setKids (l ++ r)) rfl rfl
 have hids : idsT (q.setKids (l ++ x :: r)) = q.id :: (l.flatMap idsT ++ (idsT x ++ r.flatMap idsT)) := by rw [ids_set, List.flatMap_append, List.flatMap_cons]
 have hids0 : idsT (q.setKids (l ++ r)) = q.id :: (l.flatMap idsT ++ r.flatMap idsT) := by rw [ids_set, List.flatMap_append]
 refine ⟨?_, ?_, ?_, ?_, ?_, ?_⟩
 ·rw [right_plug]
  refine ⟨u1.1, ?_⟩
  obtain ⟨a1, _⟩ := alone_len u1.2
  have hkd := right_kid u1.2
  have hnd : ((l ++ r).map keyK).Nodup := by
   have := u1.2
   rw [rightT_eq] at this
   simp only [Bool.and_eq_true, decide_eq_true_eq] at this
   exact this.2.2.2
  rw [right_mid]
  refine ⟨⟨?_, hkd, hn, hnd, taken_no.1 ht⟩, x1⟩
  exact alone_set (t := q.setKids (l ++ r)) a1 (m := l ++ q :: r) (by simp at h64 ⊢; omega)
 ·rw [dep_plug] at u2 ⊢
  rw [dep_mid]; omega
 ·rw [cnt_plug] at u3 hc ⊢
  rw [cnt_mid]; omega
 ·rw [ids_plug, hids]
  rw [ids_plug, hids0] at u4 hs
  have hp : (preC C ++ (q.id :: (l.flatMap idsT ++ (idsT x ++ r.flatMap idsT)) ++ postC C)).Perm (idsT x ++ (preC C ++ (q.id :: (l.flatMap idsT ++ r.flatMap idsT) ++ postC C))) := by
   simp only [List.cons_append, List.append_assoc]
   have e1 : (preC C ++ q.id :: (l.flatMap idsT ++ (idsT x ++ (r.flatMap idsT ++ postC C)))) = (preC C ++ q.id :: l.flatMap idsT) ++ (idsT x ++ (r.flatMap idsT ++ postC C)) := by simp
   have e2 : (preC C ++ q.id :: (l.flatMap idsT ++ (r.flatMap idsT ++ postC C))) = (preC C ++ q.id :: l.flatMap idsT) ++ (r.flatMap idsT ++ postC C) := by simp
   rw [e1, e2]
   exact List.perm_append_comm_assoc _ _ _
  rw [hp.nodup_iff, List.nodup_append]
  exact ⟨x4, u4, fun a ha b hb e => hs a ha (e ▸ hb)⟩
 ·rw [hr, hp]; exact u5
 ·intro hm
  have hz : Idv.zero ∉ idsT x := by
   rw [idsT_eq, List.mem_cons]
   rintro (h | h)
   ·exact hk (x5.1 h.symm)
   ·exact x6 h
  rw [kids_ids, hids] at hm
  rw [kids_ids, hids0] at u6
  cases hC : preC C with
  | nil =>
   rw [hC] at hm u6
   simp only [List.nil_append, List.cons_append, List.drop_succ_cons, List.drop_zero, List.mem_append, List.append_assoc] at hm u6
   rcases hm with h | h | h | h
   ·exact u6 (.inl h)
   ·exact hz h
   ·exact u6 (.inr (.inl h))
   ·exact u6 (.inr (.inr h))
  | cons i p =>
   rw [hC] at hm u6
   simp only [List.cons_append, List.drop_succ_cons, List.drop_zero, List.mem_append, List.mem_cons, List.append_assoc] at hm u6
   rcases hm with h | h | h | h | h | h
   ·exact u6 (.inl h)
   ·exact u6 (.inr (.inl h))
   ·exact u6 (.inr (.inr (.inl h)))
   ·exact hz h
   ·exact u6 (.inr (.inr (.inr (.inl h))))
   ·exact u6 (.inr (.inr (.inr (.inr h))))
theorem stands_del {C : Ctx} {q x : T} {l r : List T} (hu : standsT (plug C (q.setKids (l ++ x :: r))) = true) : standsT (plug C (q.setKids (l ++ r))) = true ∧ standsT x = true ∧ x.kind ≠ 0 ∧ nestsB q.kind x.kind = true ∧ takenT (l ++ r) x.kind x.label = false ∧
  (l ++ r).length < 64 ∧ lenC C + 1 + depT x ≤ 8 ∧ cntT (plug C (q.setKids (l ++ r))) + cntT x ≤ 1024 ∧ (∀ i ∈ idsT x, i ∉ idsT (plug C (q.setKids (l ++ r)))) := by
 rw [stands_iff] at hu
 obtain ⟨u1, u2, u3, u4, u5, u6⟩ := hu
 rw [right_plug, right_mid] at u1
 obtain ⟨uC, ⟨a1, a2, a3, a4, a5⟩, uX⟩ := u1
 obtain ⟨hr, hp⟩ := root_plug C (x := q.setKids (l ++ x :: r)) (y := q.setKids (l ++ r)) rfl rfl
 have hids : idsT (q.setKids (l ++ x :: r)) = q.id :: (l.flatMap idsT ++ (idsT x ++ r.flatMap idsT)) := by rw [ids_set, List.flatMap_append, List.flatMap_cons]
 have hids0 : idsT (q.setKids (l ++ r)) = q.id :: (l.flatMap idsT ++ r.flatMap idsT) := by rw [ids_set, List.flatMap_append]
 rw [dep_plug, dep_mid] at u2
 rw [cnt_plug, cnt_mid] at u3
 have h65 : (l ++ q :: r).length ≤ 64 := by
  have := a1
  unfold aloneR at this
  simp only [Bool.and_eq_true, decide_eq_true_eq] at this
  exact this.2.1
 have hp2 : (preC C ++ (q.id :: (l.flatMap idsT ++ (idsT x ++ r.flatMap idsT)) ++ postC C)).Perm (idsT x ++ (preC C ++ (q.id :: (l.flatMap idsT ++ r.flatMap idsT) ++ postC C))) := by
  simp only [List.cons_append, List.append_assoc]
  have e1 : (preC C ++ q.id :: (l.flatMap idsT ++ (idsT x ++ (r.flatMap idsT ++ postC C)))) = (preC C ++ q.id :: l.flatMap idsT) ++ (idsT x ++ (r.flatMap idsT ++ postC C)) := by simp
  have e2 : (preC C ++ q.id :: (l.flatMap idsT ++ (r.flatMap idsT ++ postC C))) = (preC C ++ q.id :: l.flatMap idsT) ++ (r.flatMap idsT ++ postC C) := by simp
  rw [e1, e2]
  exact List.perm_append_comm_assoc _ _ _
 rw [ids_plug, hids, hp2.nodup_iff, List.nodup_append] at u4
 obtain ⟨n1, n2, n3⟩ := u4
 have hz6 : Idv.zero ∉ idsT x ∧ Idv.zero ∉ (preC C ++ (q.id :: (l.flatMap idsT ++ r.flatMap idsT) ++ postC C)).drop 1 := by
  rw [kids_ids, hids] at u6
  cases hC : preC C with
  | nil =>
   rw [hC] at u6
   simp only [List.nil_append, List.cons_append, List.drop_succ_cons, List.drop_zero, List.mem_append, List.append_assoc] at u6 ⊢
   exact ⟨fun h => u6 (.inr (.inl h)), fun h => by
    rcases h with h | h | h
    ·exact u6 (.inl h)
    ·exact u6 (.inr (.inr (.inl h)))
    ·exact u6 (.inr (.inr (.inr h)))⟩
  | cons i p =>
   rw [hC] at u6
   simp only [List.cons_append, List.drop_succ_cons, List.drop_zero, List.mem_append, List.mem_cons, List.append_assoc] at u6 ⊢
   exact ⟨fun h => u6 (.inr (.inr (.inr (.inl h)))), fun h => by
    rcases h with h | h | h | h | h
    ·exact u6 (.inl h)
    ·exact u6 (.inr (.inl h))
    ·exact u6 (.inr (.inr (.inl h)))
    ·exact u6 (.inr (.inr (.inr (.inr (.inl h)))))
    ·exact u6 (.inr (.inr (.inr (.inr (.inr h)))))⟩
 have hk0 : x.kind ≠ 0 := fun e => by rw [e, nest0] at a3; cases a3
 refine ⟨?_, ?_, hk0, a3, taken_no.2 a5, by simp at h65 ⊢; omega, by omega, by rw [cnt_plug]; omega, fun i hi hm => ?_⟩
 ·rw [stands_iff]
  refine ⟨?_, by rw [dep_plug]; omega, by rw [cnt_plug]; omega, ?_, by rw [← hr, ← hp]; exact u5, ?_⟩
  ·rw [right_plug]
   refine ⟨uC, ?_⟩
   rw [rightT_eq]
   show (aloneR (q.setKids (l ++ r)) && (((l ++ r).all fun k => nestsB q.kind k.kind) && ((l ++ r).all rightT && decide (((l ++ r).map keyK).Nodup)))) = true
   simp only [Bool.and_eq_true, List.all_eq_true, decide_eq_true_eq]
   exact ⟨alone_set (t := q.setKids (l ++ q :: r)) a1 (m := l ++ r) (by simp at h65 ⊢; omega), fun y hy => (a2 y hy).1, fun y hy => (a2 y hy).2, a4⟩
  ·rw [ids_plug, hids0]; exact n2
  ·rw [kids_ids, hids0]; exact hz6.2
 ·rw [stands_iff]
  refine ⟨uX, by omega, by omega, n1, ⟨fun h => (hz6.1 (h ▸ id_self x)).elim, fun h => (hk0 h).elim⟩, fun h => hz6.1 ?_⟩
  rw [idsT_eq]; exact List.mem_cons_of_mem _ h
 ·rw [ids_plug, hids0] at hm
  exact n3 i hi i hm rfl
theorem sz_set {t : T} (h : szB t = true) {l : List T} (hl : l.length ≤ 1000000) (hk : ∀ k ∈ l, szB k = true) : szB (t.setKids l) = true := by
 obtain ⟨h0, h1, h2, h3, h4, _, _⟩ := (sz_iff t).1 h
 exact (sz_iff _).2 ⟨h0, h1, h2, h3, h4, hl, hk⟩
theorem sz_kids {t : T} (h : szB t = true) : t.kids.length ≤ 1000000 ∧ ∀ k ∈ t.kids, szB k = true := by
 obtain ⟨_, _, _, _, _, h5, h6⟩ := (sz_iff t).1 h
 exact ⟨h5, h6⟩
theorem sz_plug {x y : T} (hy : szB y = true) : ∀ C, szB (plug C x) = true → szB (plug C y) = true
 | .hole, _ => hy
 | .node t l c r, h => by
  obtain ⟨h1, h2⟩ := sz_kids h
  have h3 := sz_plug (x := x) hy c (h2 _ (by show plug c x ∈ l ++ plug c x :: r; simp))
  refine sz_set (t := plug (.node t l c r) x) h (l := l ++ plug c y :: r) (by simpa [plug, T.setKids, T.kids] using h1) fun k hk => ?_
  rcases List.mem_append.1 hk with hk | hk
  ·exact h2 k (List.mem_append_left _ hk)
  ·rcases List.mem_cons.1 hk with rfl | hk
   ·exact h3
   ·exact h2 k (List.mem_append_right _ (List.mem_cons_of_mem _ hk))
theorem sz_in {x : T} : ∀ C, szB (plug C x) = true → szB x = true
 | .hole, h => h
 | .node t l c r, h => sz_in c ((sz_kids h).2 _ (by show plug c x ∈ l ++ plug c x :: r; simp))
theorem sz_edit {id : Idv} {f : T → T} (hf : ∀ q, szB q = true → q.id = id → szB (f q) = true) : ∀ u : T, szB u = true → szB (editT id f u) = true := by
 refine ind1 fun u ih h => ?_
 rw [editT_eq]
 split
 ·exact hf u h ‹_›
 ·obtain ⟨h1, h2⟩ := sz_kids h
  refine sz_set h (by rw [List.length_map]; exact h1) fun k hk => ?_
  obtain ⟨k', hk', rfl⟩ := List.mem_map.1 hk
  exact ih k' hk' (h2 k' hk')
theorem sz_wipe {id : Idv} : ∀ u : T, szB u = true → szB (wipeT id u) = true := by
 refine ind1 fun u ih h => ?_
 rw [wipeT_eq]
 obtain ⟨h1, h2⟩ := sz_kids h
 refine sz_set h (by rw [List.length_map]; have := List.length_filter_le (keepK id) u.kids; omega) fun k hk => ?_
 obtain ⟨k', hk', rfl⟩ := List.mem_map.1 hk
 exact ih k' (List.mem_filter.1 hk').1 (h2 k' (List.mem_filter.1 hk').1)
end Tr
end Go.Proofs.YtkhjpcmpljpmjaaGreatDoor
