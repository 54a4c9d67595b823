/-
 What insertions and removals give, and that each undoes the other. Plain. No condition.
-/
import Derived.Test.YtkhjpcmpljpmjaaGreatDoorRefABC
set_option linter.unusedSimpArgs false
set_option linter.unusedVariables false
namespace Go.Proofs.YtkhjpcmpljpmjaaGreatDoor
open Abs Facts Tr
namespace Tr
theorem wrong_zero {u x : T} {parent : Idv} {n : Nat} (h1 : standsT u = true) (h2 : standsT x = true) (h3 : x.kind ≠ 0) (h4 : parent ∈ idsT u) (h5 : nestsB (findR parent u).1.kind x.kind = true) (h6 : n ≤ (findR parent u).1.kids.length)
  (h7 : takenT (findR parent u).1.kids x.kind x.label = false) (h8 : (findR parent u).1.kids.length < 64) (h9 : (ancR parent u).length + 1 + depT x ≤ 8) (h10 : cntT u + cntT x ≤ 1024) (h11 : ∀ i ∈ idsT x, i ∉ idsT u) : wrongT u parent n x = 0 := by
 unfold wrongT
 rw [if_neg (by rw [h1, h2]; simp [h3]), if_neg (by rw [find_in, decide_eq_true h4]; simp), if_neg (by rw [h5]; simp), if_neg (by omega), if_neg (by rw [h7]; simp), if_neg (by omega), if_neg]
 rw [List.any_eq_true]
 rintro ⟨i, hi, hf⟩
 rw [find_in, decide_eq_true_eq] at hf
 exact h11 i hi hf
theorem anc_focus {C : Ctx} {q : T} {id : Idv} (hq : q.id = id) (h : id ∉ preC C) : (ancR id (plug C q)).length = lenC C := by
 rw [anc_plug (hq ▸ id_self q) C h, ancR_self hq, List.nil_append, spine_len]
theorem nodup_of {t : T} (h : standsT t = true) : (idsT t).Nodup := ((stands_iff t).1 h).2.2.2.1
theorem ins_facts {u x : T} {parent : Idv} {n : Nat} (h : wrongT u parent n x = 0) : ∃ (C : Ctx) (q : T) (l r : List T), u = plug C (q.setKids (l ++ r)) ∧ l.length = n ∧ q.id = parent ∧ editT parent (insK n x) u = plug C (q.setKids (l ++ x :: r)) ∧
  standsT (editT parent (insK n x) u) = true ∧ wipeT x.id (editT parent (insK n x) u) = u ∧ findR x.id (editT parent (insK n x) u) = (x, true) ∧ parR x.id (editT parent (insK n x) u) = (parent, (n : Int), true) ∧ ¬ (editT parent (insK n x) u).id = x.id ∧
  (atR parent (insK n x) u).1 = editT parent (insK n x) u ∧ (∀ i ∈ idsT x, i ∉ idsT u) ∧ cntT (editT parent (insK n x) u) = cntT u + cntT x := by
 obtain ⟨⟨h1, h2, h3, h4, h5, h7, h8, h9, h10, h11⟩, hm, n', hn, hle⟩ := wrong_ok h
 obtain rfl : n = n' := by omega
 have hdis : ∀ i ∈ idsT x, i ∉ idsT u := fun i hi hm => by
  have := List.any_eq_false.1 h11 i hi
  rw [find_in, decide_eq_true hm] at this
  exact this rfl
 have hnd := nodup_of h1
 obtain ⟨C, e, hq, hpre, _⟩ := focus parent u hm
 have hqn := find_node h4
 have hk := hle _ hqn hq
 generalize hq0 : (findR parent u).1 = q at *
 have e2 : q = q.setKids (q.kids.take n ++ q.kids.drop n) := by rw [List.take_append_drop, setKids_self]
 generalize hl : q.kids.take n = l at *
 generalize hr : q.kids.drop n = r at *
 have hln : l.length = n := by rw [← hl, List.length_take]; omega
 have hkr : q.kids = l ++ r := by rw [← hl, ← hr, List.take_append_drop]
 have hue : u = plug C (q.setKids (l ++ r)) := e.trans (congrArg (plug C) e2)
 have hxu := hdis x.id (id_self x)
 have hmx : x.id ∈ idsT (q.setKids (l ++ x :: r)) := by rw [ids_set]; exact List.mem_cons_of_mem _ (mem_kid.2 (.inr (.inl (id_self x))))
 rw [hue, ids_plug, ids_set, List.flatMap_append] at hxu
 simp only [List.mem_append, List.mem_cons, not_or] at hxu
 obtain ⟨k1, ⟨k2, k3, k4⟩, k5⟩ := hxu
 have hpost : parent ∉ postC C := (nodup_plug (x := q) (by rw [← e]; exact hnd) (hq ▸ id_self q)).2
 have hed : editT parent (insK n x) u = plug C (q.setKids (l ++ x :: r)) := by
  rw [e, edit_plug (insK n x) hq C hpre hpost]
  rw [e2, ← hln, insK_mid]
  rfl
 have hst : standsT (plug C (q.setKids (l ++ x :: r))) = true := by
  refine stands_ins (by rw [← hue]; exact h1) h2 h3 h5 (by rw [← hkr]; exact h7) (by rw [← hkr]; exact h8) ?_ (by rw [← hue]; exact h10) (by rw [← hue]; exact hdis)
  have := anc_focus hq hpre
  rw [← e] at this
  omega
 rw [hed]
 refine ⟨C, q, l, r, hue, hln, hq, rfl, hst, ?_, ?_, ?_, ?_, ?_, hdis, ?_⟩
 ·rw [wipe_plug (fun e => k2 e.symm) rfl k3 k4 C k1 k5, hue]
 ·rw [find_plug hmx C k1, find_mid (fun e => k2 e.symm) k3 (id_self x), findR_self rfl]
 ·rw [par_plug hmx (fun e => k2 e.symm) C k1, par_here (fun e => k2 e.symm) k3 rfl, hq, hln]
 ·intro hid
  cases C with
  | hole => exact k2 hid.symm
  | node t a c b => exact (pre_node k1).1 hid
 ·rw [at_edit (insK n x) hnd hm, hed]
 ·rw [hue, cnt_plug, cnt_plug, cnt_mid]; omega
theorem del_facts {u : T} {id : Idv} (hs : standsT u = true) (h0 : ¬ u.id = id) (hm : id ∈ idsT u) : ∃ (under : Idv) (n : Nat) (x : T), parR id u = (under, (n : Int), true) ∧ findR id u = (x, true) ∧ x.id = id ∧ standsT (wipeT id u) = true ∧ standsT x = true ∧ x.kind ≠ 0 ∧
  wrongT (wipeT id u) under n x = 0 ∧ editT under (insK n x) (wipeT id u) = u ∧ (∀ i ∈ idsT x, i ∉ idsT (wipeT id u)) ∧ under ∈ idsT (wipeT id u) ∧ cntT (wipeT id u) + cntT x = cntT u ∧ (∀ i ∈ idsT u, i ∈ idsT x ∨ i ∈ idsT (wipeT id u)) := by
 obtain ⟨C, q, l, x, r, e, hx, hq, n1, n2, hf, hp⟩ := focus2 h0 hm
 have hnd := nodup_of hs
 subst e
 have hxm : id ∈ idsT (q.setKids (l ++ x :: r)) := by rw [ids_set]; exact List.mem_cons_of_mem _ (mem_kid.2 (.inr (.inl (hx ▸ id_self x))))
 obtain ⟨k1, k2⟩ := nodup_plug hnd hxm
 have ns := (nodup_set (nodup_hole hnd)).1 id (hx ▸ id_self x)
 have hw := wipe_plug hq hx n2 ns.2.2 C k1 k2
 obtain ⟨d1, d2, d3, d4, d5, d6, d7, d8, d9⟩ := stands_del hs
 rw [hw]
 have hnd2 := nodup_of d1
 have hqs : q.id ∈ idsT (q.setKids (l ++ r)) := by rw [ids_set]; exact List.mem_cons_self
 obtain ⟨m1, m2⟩ := nodup_plug hnd2 hqs
 have hfq : findR q.id (plug C (q.setKids (l ++ r))) = (q.setKids (l ++ r), true) := by rw [find_plug hqs C m1]; exact findR_self rfl
 refine ⟨q.id, l.length, x, hp, hf, hx, d1, d2, d3, ?_, ?_, d9, mem_plug C hqs, ?_, fun i hi => ?_⟩
 ·refine wrong_zero d1 d2 d3 (mem_plug C hqs) (by rw [hfq]; exact d4) ?_ (by rw [hfq]; exact d5) (by rw [hfq]; exact d6) ?_ d8 d9
  ·rw [hfq]; show l.length ≤ (l ++ r).length; simp
  ·rw [anc_focus (id := q.id) (q := q.setKids (l ++ r)) rfl m1]; exact d7
 ·rw [edit_plug (id := q.id) (insK l.length x) (q := q.setKids (l ++ r)) rfl C m1 m2, insK_mid]
 ·rw [cnt_plug, cnt_plug, cnt_mid]; omega
 ·rw [ids_plug, ids_set, List.flatMap_append, List.flatMap_cons] at hi
  rw [ids_plug, ids_set, List.flatMap_append]
  simp only [List.mem_append, List.mem_cons] at hi ⊢
  rcases hi with h | (h | h | h | h) | h
  ·exact .inr (.inl h)
  ·exact .inr (.inr (.inl (.inl h)))
  ·exact .inr (.inr (.inl (.inr (.inl h))))
  ·exact .inl h
  ·exact .inr (.inr (.inl (.inr (.inr h))))
  ·exact .inr (.inr (.inr h))
theorem wipe_out {id : Idv} {t : T} (h : id ∉ idsT t) : wipeT id t = t := wipe_no t fun k hk hm => h (by rw [idsT_eq]; exact List.mem_cons_of_mem _ (List.mem_flatMap.2 ⟨k, hk, hm⟩))
theorem wipe_id (id : Idv) (t : T) : (wipeT id t).id = t.id ∧ (wipeT id t).kind = t.kind ∧ (wipeT id t).label = t.label ∧ (wipeT id t).head = t.head ∧ (wipeT id t).words = t.words := by
 rw [wipeT_eq]; exact ⟨rfl, rfl, rfl, rfl, rfl⟩
theorem ids_wipe (id : Idv) : ∀ t : T, ∀ i ∈ idsT (wipeT id t), i ∈ idsT t := by
 refine ind1 fun t ih i hi => ?_
 rw [wipeT_eq, ids_set, List.mem_cons, List.mem_flatMap] at hi
 rw [idsT_eq, List.mem_cons, List.mem_flatMap]
 rcases hi with h | ⟨k, hk, h⟩
 ·exact .inl h
 ·obtain ⟨k', hk', rfl⟩ := List.mem_map.1 hk
  exact .inr ⟨k', (List.mem_filter.1 hk').1, ih k' (List.mem_filter.1 hk').1 i h⟩
theorem find_sub {k : Idv} {u : T} : ∀ i ∈ idsT (findR k u).1, (findR k u).2 = true → i ∈ idsT u := fun i hi hf => by
 have hm : k ∈ idsT u := by rw [find_in, decide_eq_true_eq] at hf; exact hf
 obtain ⟨C, e, _, _, _⟩ := focus k u hm
 rw [e]
 exact mem_plug C hi
theorem dep_wipe {id : Idv} : ∀ u : T, depT (wipeT id u) ≤ depT u := by
 have key : ∀ (l : List T) (g : T → T) (p : T → Bool), (∀ k ∈ l, depT (g k) ≤ depT k) → depF (((l.filter p).map g).map depT) ≤ depF (l.map depT) := by
  intro l g p h
  induction l with
  | nil => simp
  | cons k l ih =>
   have h1 := h k (by simp)
   have h2 := ih fun k hk => h k (List.mem_cons_of_mem _ hk)
   rw [List.filter_cons, List.map_cons, depF_cons]
   split
   ·rw [List.map_cons, List.map_cons, depF_cons]; omega
   ·omega
 refine ind1 fun u ih => ?_
 rw [wipeT_eq, depT_eq, depT_eq u]
 exact key u.kids (wipeT id) (keepK id) ih
theorem dep_find (id : Idv) (u : T) : depT (findR id u).1 ≤ depT u := by
 by_cases h : id ∈ idsT u
 ·obtain ⟨C, e, _⟩ := focus id u h
  conv => rhs; rw [e]
  rw [dep_plug]; omega
 ·rw [findR_out h, show depT T.zero = 0 from by decide +kernel]; omega
theorem find_wipe {id k : Idv} : ∀ u : T, (idsT u).Nodup → ¬ u.id = id → k ∈ idsT u → (∀ y, findR id u = (y, true) → k ∉ idsT y) → findR k (wipeT id u) = (wipeT id (findR k u).1, true) := by
 refine ind1 fun u ih hn h0 hk hy => ?_
 by_cases hid : id ∉ idsT u
 ·rw [wipe_out hid]
  have hf : (findR k u).2 = true := by rw [find_in, decide_eq_true hk]
  have := wipe_out (id := id) (t := (findR k u).1) fun hm => hid (find_sub id hm hf)
  rw [this, ← hf]
 rw [Classical.not_not] at hid
 by_cases hku : u.id = k
 ·rw [findR_self hku]
  exact findR_self (by rw [(wipe_id id u).1]; exact hku)
 ·obtain ⟨i, hi, h1, h2, h3⟩ := way_split hku (way_ne.2 hk)
  have hkm := way_ne.1 h2
  rw [findR_cons h3 h2]
  obtain ⟨g1, g2, g3⟩ := nodup_kids hn
  have hki := List.getElem_mem hi
  have hkeep : ¬ u.kids[i].id = id := fun e => by
   refine hy u.kids[i] ?_ hkm
   have hw : wayT id u.kids[i] = [u.kids[i]] := wayT_self e
   have hne : wayT id u.kids[i] ≠ [] := by rw [hw]; simp
   rw [findR_cons (wayT_kid h0 hi (fun j hj h => (way_nil id _).2 (g3 i j hi h (by omega) id (e ▸ id_self _))) hne) hne]
   exact findR_self e
  have hin := ih _ hki (g2 _ hki) hkeep hkm (fun y hf => hy y (by
   have hne : wayT id u.kids[i] ≠ [] := findR_way'.1 (by rw [hf])
   rw [findR_cons (wayT_kid h0 hi (fun j hj h => (way_nil id _).2 (g3 i j hi h (by omega) id (way_ne.1 hne))) hne) hne]
   exact hf))
  have hsp : u.kids = u.kids.take i ++ u.kids[i] :: u.kids.drop (i + 1) := by rw [← List.drop_eq_getElem_cons hi, List.take_append_drop]
  have hwk : k ∈ idsT (wipeT id u.kids[i]) := by
   have : (findR k (wipeT id u.kids[i])).2 = true := by rw [hin]
   rw [find_in, decide_eq_true_eq] at this; exact this
  rw [wipeT_eq]
  have e : (u.kids.filter (keepK id)).map (wipeT id) = ((u.kids.take i).filter (keepK id)).map (wipeT id) ++ wipeT id u.kids[i] :: ((u.kids.drop (i + 1)).filter (keepK id)).map (wipeT id) := by
   conv => lhs; rw [hsp]
   rw [List.filter_append, List.filter_cons, if_pos (keepK_t hkeep), List.map_append, List.map_cons]
  rw [e, find_mid hku ?_ hwk, hin]
  intro hm
  obtain ⟨y, hym, hyk⟩ := List.mem_flatMap.1 hm
  obtain ⟨y', hy', rfl⟩ := List.mem_map.1 hym
  have hmem := (List.mem_filter.1 hy').1
  obtain ⟨j, hj, rfl⟩ := List.getElem_of_mem hmem
  rw [List.length_take] at hj
  have := ids_wipe id _ k hyk
  rw [List.getElem_take] at this
  exact g3 i j hi (by omega) (by omega) k hkm this
end Tr
end Go.Proofs.YtkhjpcmpljpmjaaGreatDoor
