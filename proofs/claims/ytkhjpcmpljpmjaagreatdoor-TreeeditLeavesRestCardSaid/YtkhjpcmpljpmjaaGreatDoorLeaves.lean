/-
 What an edit leaves as it was: contents and parents. Plain. No condition.
-/
import Derived.Test.YtkhjpcmpljpmjaaGreatDoorRefWr
import Derived.Test.YtkhjpcmpljpmjaaGreatDoorLaw8AB
set_option linter.unusedSimpArgs false
set_option linter.unusedVariables false
namespace Go.Proofs.YtkhjpcmpljpmjaaGreatDoor
open Abs Facts Tr
namespace Tr
def aloneT (t : T) : T := t.setKids []
def Keeps (id : Idv) (a b : T) : Prop := ∀ p ∈ nodesT a, ∃ p' ∈ nodesT b, p'.id = p.id ∧ (p.id ≠ id → aloneT p' = aloneT p) ∧ ∀ y ∈ p.kids, ∃ y' ∈ p'.kids, y'.id = y.id
theorem nodes_sub : ∀ u x : T, x ∈ nodesT u → ∀ y ∈ nodesT x, y ∈ nodesT u := by
 refine fun u => ind1 (p := fun u => ∀ x : T, x ∈ nodesT u → ∀ y ∈ nodesT x, y ∈ nodesT u) (fun u ih x hx y hy => ?_) u
 rw [nodesT_eq, List.mem_cons] at hx
 rcases hx with rfl | hx
 ·exact hy
 ·obtain ⟨k, hk, hxk⟩ := List.mem_flatMap.1 hx
  exact nodesT_kid hk (ih k hk x hxk y hy)
theorem par_unique : ∀ t : T, (idsT t).Nodup → ∀ p ∈ nodesT t, ∀ y ∈ p.kids, (parR y.id t).1 = p.id := by
 refine ind1 fun t ih hn p hp y hy => ?_
 obtain ⟨g1, g2, g3⟩ := nodup_kids hn
 rw [nodesT_eq, List.mem_cons] at hp
 rcases hp with rfl | hp
 ·obtain ⟨i, hi, rfl⟩ := List.getElem_of_mem hy
  rw [parR_here (id := p.kids[i].id) (t := p) (i := i) (fun e => g1 _ hy (e ▸ id_self _)) hi (fun j hj h => (way_nil _ _).2 (g3 i j hi h (by omega) _ (id_self _))) rfl]
 ·obtain ⟨k, hk, hpk⟩ := List.mem_flatMap.1 hp
  obtain ⟨i, hi, rfl⟩ := List.getElem_of_mem hk
  have hyi : y.id ∈ idsT t.kids[i] := List.mem_map.2 ⟨y, nodes_sub _ p hpk y (nodesT_kid hy (nodesT_self y)), rfl⟩
  have hne : ¬ t.kids[i].id = y.id := by
   intro e
   have hn2 := g2 _ hk
   have key : ∀ t : T, (idsT t).Nodup → ∀ p ∈ nodesT t, ∀ y ∈ p.kids, t.id ≠ y.id := by
    intro t hn p hp y hy e
    rw [idsT_eq, List.nodup_cons] at hn
    refine hn.1 ?_
    rw [e]
    rw [nodesT_eq, List.mem_cons] at hp
    rcases hp with rfl | hp
    ·exact List.mem_flatMap.2 ⟨y, hy, id_self y⟩
    ·obtain ⟨k, hk, hpk⟩ := List.mem_flatMap.1 hp
     refine List.mem_flatMap.2 ⟨k, hk, List.mem_map.2 ⟨y, ?_, rfl⟩⟩
     exact nodes_sub k p hpk y (nodesT_kid hy (nodesT_self y))
   exact key _ hn2 p hpk y hy e
  rw [parR_in (id := y.id) (t := t) (i := i) (fun e => g1 _ hk (e ▸ hyi)) hi (fun j hj h => (way_nil _ _).2 (g3 i j hi h (by omega) _ hyi)) hne (way_ne.2 hyi)]
  exact ih _ hk (g2 _ hk) p hpk y hy
theorem node_plug (C : Ctx) {x y : T} (h : y ∈ nodesT x) : y ∈ nodesT (plug C x) := by
 induction C with
 | hole => exact h
 | node t l c r ih => exact nodesT_kid (t := plug (.node t l c r) x) (k := plug c x) (by show _ ∈ l ++ _ :: r; simp) ih
theorem parent_of {t : T} {k : Idv} (hk : k ∈ idsT t) (h0 : ¬ t.id = k) : ∃ p ∈ nodesT t, ∃ y ∈ p.kids, y.id = k := by
 obtain ⟨C, q, l, x, r, e, hx, _⟩ := focus2 h0 hk
 refine ⟨q.setKids (l ++ x :: r), ?_, x, by show x ∈ l ++ x :: r; simp, hx⟩
 rw [e]
 exact node_plug C (nodesT_self _)
theorem keeps_facts {id : Idv} {a b : T} (hK : Keeps id a b) (ha : (idsT a).Nodup) (hb : (idsT b).Nodup) {k : Idv} (hk : k ∈ idsT a) :
  (findR k b).2 = true ∧ (k ≠ id → aloneT (findR k a).1 = aloneT (findR k b).1) ∧ (¬ a.id = k → (parR k a).1 = (parR k b).1) := by
 obtain ⟨p, hp, hpk⟩ := List.mem_map.1 hk
 obtain ⟨p', hp', e1, e2, _⟩ := hK p hp
 have h1 := node_find ha hp hpk
 have h2 := node_find hb hp' (e1.trans hpk)
 refine ⟨by rw [h2], fun hne => ?_, fun h0 => ?_⟩
 ·rw [h1, h2]; exact (e2 (by rw [hpk]; exact hne)).symm
 ·obtain ⟨q, hq, y, hy, hyk⟩ := parent_of hk h0
  obtain ⟨q', hq', f1, _, f3⟩ := hK q hq
  obtain ⟨y', hy', f4⟩ := f3 y hy
  have g1 := par_unique a ha q hq y hy
  have g2 := par_unique b hb q' hq' y' hy'
  rw [hyk] at g1
  rw [f4, hyk] at g2
  rw [g1, g2, f1]
def compC : Ctx → Ctx → Ctx
 | .hole, D => D
 | .node t l c r, D => .node t l (compC c D) r
theorem plug_comp (D : Ctx) (x : T) : ∀ C, plug (compC C D) x = plug C (plug D x)
 | .hole => rfl
 | .node t l c r => by rw [compC, plug, plug_comp D x c, plug]
theorem pre_comp (D : Ctx) : ∀ C, preC (compC C D) = preC C ++ preC D
 | .hole => by simp [compC, preC]
 | .node t l c r => by rw [compC, preC, preC, pre_comp D c, List.cons_append, List.append_assoc]
theorem post_comp (D : Ctx) : ∀ C, postC (compC C D) = postC D ++ postC C
 | .hole => by simp [compC, postC]
 | .node t l c r => by rw [compC, postC, postC, post_comp D c, List.append_assoc]
theorem keeps_sub {id : Idv} {a b : T} (h : ∀ p ∈ nodesT a, p ∈ nodesT b) : Keeps id a b := fun p hp => ⟨p, h p hp, rfl, fun _ => rfl, fun y hy => ⟨y, hy, rfl⟩⟩
theorem keeps_plug {id : Idv} {a b : T} (hK : Keeps id a b) (hid : b.id = a.id) : ∀ C, Keeps id (plug C a) (plug C b)
 | .hole => hK
 | .node t l c r => by
  have ih := keeps_plug hK hid c
  have hr : (plug c b).id = (plug c a).id := by
   cases c with
   | hole => exact hid
   | node t' l' c' r' => rfl
  intro p hp
  rw [plug, nodesT_eq, List.mem_cons] at hp
  rcases hp with rfl | hp
  ·refine ⟨plug (.node t l c r) b, nodesT_self _, rfl, fun _ => rfl, fun y hy => ?_⟩
   have hy : y ∈ l ++ plug c a :: r := hy
   show ∃ y' ∈ l ++ plug c b :: r, y'.id = y.id
   rcases List.mem_append.1 hy with h | h
   ·exact ⟨y, List.mem_append_left _ h, rfl⟩
   ·rcases List.mem_cons.1 h with rfl | h
    ·exact ⟨plug c b, by simp, hr⟩
    ·exact ⟨y, List.mem_append_right _ (List.mem_cons_of_mem _ h), rfl⟩
  ·have hp : p ∈ (l ++ plug c a :: r).flatMap nodesT := hp
   rw [List.flatMap_append, List.flatMap_cons, List.mem_append, List.mem_append] at hp
   have sub : ∀ k ∈ l ++ plug c b :: r, ∀ y ∈ nodesT k, y ∈ nodesT (plug (.node t l c r) b) := fun k hk y hy => nodesT_kid (t := plug (.node t l c r) b) hk hy
   rcases hp with h | h | h
   ·obtain ⟨k, hk, hpk⟩ := List.mem_flatMap.1 h
    exact ⟨p, sub k (List.mem_append_left _ hk) p hpk, rfl, fun _ => rfl, fun y hy => ⟨y, hy, rfl⟩⟩
   ·obtain ⟨p', hp', e⟩ := ih p h
    exact ⟨p', sub _ (by simp) p' hp', e⟩
   ·obtain ⟨k, hk, hpk⟩ := List.mem_flatMap.1 h
    exact ⟨p, sub k (List.mem_append_right _ (List.mem_cons_of_mem _ hk)) p hpk, rfl, fun _ => rfl, fun y hy => ⟨y, hy, rfl⟩⟩
theorem keeps_ins {id : Idv} (q x : T) (l r : List T) : Keeps id (q.setKids (l ++ r)) (q.setKids (l ++ x :: r)) := by
 intro p hp
 have sub : ∀ k ∈ l ++ x :: r, ∀ y ∈ nodesT k, y ∈ nodesT (q.setKids (l ++ x :: r)) := fun k hk y hy => nodesT_kid (t := q.setKids (l ++ x :: r)) hk hy
 have mem : ∀ k ∈ l ++ r, k ∈ l ++ x :: r := fun k hk => by
  rcases List.mem_append.1 hk with h | h
  ·exact List.mem_append_left _ h
  ·exact List.mem_append_right _ (List.mem_cons_of_mem _ h)
 rw [nodesT_eq, List.mem_cons] at hp
 rcases hp with rfl | hp
 ·exact ⟨_, nodesT_self _, rfl, fun _ => rfl, fun y hy => ⟨y, mem y hy, rfl⟩⟩
 ·obtain ⟨k, hk, hpk⟩ := List.mem_flatMap.1 hp
  exact ⟨p, sub k (mem k hk) p hpk, rfl, fun _ => rfl, fun y hy => ⟨y, hy, rfl⟩⟩
theorem keeps_own {q q' : T} (h1 : q'.id = q.id) (h2 : q'.kids = q.kids) : Keeps q.id q q' := by
 intro p hp
 rw [nodesT_eq, List.mem_cons] at hp
 rcases hp with rfl | hp
 ·exact ⟨q', nodesT_self _, h1, fun h => (h rfl).elim, fun y hy => ⟨y, by rw [h2]; exact hy, rfl⟩⟩
 ·refine ⟨p, ?_, rfl, fun _ => rfl, fun y hy => ⟨y, hy, rfl⟩⟩
  rw [nodesT_eq, h2]; exact List.mem_cons_of_mem _ hp
theorem nodes_wipe (id : Idv) : ∀ u : T, ∀ p ∈ nodesT (wipeT id u), ∃ q ∈ nodesT u, p = wipeT id q := by
 refine ind1 fun u ih p hp => ?_
 by_cases hpu : p = wipeT id u
 ·exact ⟨u, nodesT_self u, hpu⟩
 ·have hp2 : p ∈ ((u.kids.filter (keepK id)).map (wipeT id)).flatMap nodesT := by
   have e : nodesT (wipeT id u) = wipeT id u :: ((u.kids.filter (keepK id)).map (wipeT id)).flatMap nodesT := by
    conv => lhs; rw [nodesT_eq]
    rw [show (wipeT id u).kids = (u.kids.filter (keepK id)).map (wipeT id) from by rw [wipeT_eq]; rfl]
   rw [e, List.mem_cons] at hp
   exact hp.resolve_left hpu
  obtain ⟨k, hk, hpk⟩ := List.mem_flatMap.1 hp2
  obtain ⟨k', hk', rfl⟩ := List.mem_map.1 hk
  have hm := (List.mem_filter.1 hk').1
  obtain ⟨q, hq, e⟩ := ih k' hm p hpk
  exact ⟨q, nodesT_kid hm hq, e⟩
theorem keeps_wipe (id : Idv) (j : Idv) (u : T) : Keeps id (wipeT j u) u := by
 intro p hp
 obtain ⟨q, hq, rfl⟩ := nodes_wipe j u p hp
 refine ⟨q, hq, (wipe_id j q).1.symm, fun _ => ?_, fun y hy => ?_⟩
 ·unfold aloneT
  obtain ⟨h1, h2, h3, h4, h5⟩ := wipe_id j q
  unfold T.setKids
  rw [h1, h2, h3, h4, h5]
 ·rw [wipeT_eq] at hy
  obtain ⟨y', hy', rfl⟩ := List.mem_map.1 hy
  exact ⟨y', (List.mem_filter.1 hy').1, (wipe_id j y').1.symm⟩
theorem stands_own {C : Ctx} {q q' : T} (hs : standsT (plug C q) = true) (h1 : q'.id = q.id) (h2 : q'.kind = q.kind) (h3 : q'.kids = q.kids) (ha : aloneR q' = true) (hC : ctxR C (keyK q) → ctxR C (keyK q')) : standsT (plug C q') = true := by
 rw [stands_iff] at hs ⊢
 obtain ⟨u1, u2, u3, u4, u5, u6⟩ := hs
 rw [right_plug] at u1
 obtain ⟨hr, hp⟩ := root_plug C (x := q') (y := q) h1 h2
 have hi : idsT q' = idsT q := by rw [idsT_eq, idsT_eq, h1, h3]
 have hd : depT q' = depT q := by rw [depT_eq, depT_eq q, h3]
 have hc : cntT q' = cntT q := by rw [← idsT_len, ← idsT_len, hi]
 refine ⟨?_, ?_, ?_, ?_, by rw [hr, hp]; exact u5, ?_⟩
 ·rw [right_plug]
  refine ⟨hC u1.1, ?_⟩
  have := u1.2
  rw [rightT_eq] at this ⊢
  rw [h3, h2]
  simp only [Bool.and_eq_true] at this ⊢
  exact ⟨ha, this.2⟩
 ·rw [dep_plug] at u2 ⊢; omega
 ·rw [cnt_plug] at u3 ⊢; omega
 ·rw [ids_plug, hi, ← ids_plug]; exact u4
 ·rw [kids_ids, hi, ← kids_ids]; exact u6
def LRP (u v : T) (id : Idv) (gone : List Idv) : Prop := standsT v = true ∧ cntT v + gone.length = cntT u ∧ gone.Nodup ∧
 ∀ k ∈ idsT u, (findR k v).2 = (!decide (k ∈ gone)) ∧ ((findR k v).2 = true → k ≠ id → aloneT (findR k u).1 = aloneT (findR k v).1 ∧ (parR k u).1 = (parR k v).1)
theorem lrp_remove {u : T} {id : Idv} (h : takeE u id = 0) : LRP u (wipeT id u) id (idsT (findR id u).1) := by
 obtain ⟨h1, h2, h3⟩ := take_ok h
 obtain ⟨under, n, x, d1, d2, d3, d4, d5, d6, d7, d8, d9, d10, d11, d12⟩ := del_facts h1 h3 h2
 rw [d2]
 refine ⟨d4, by rw [idsT_len]; exact d11, nodup_of d5, fun k hk => ?_⟩
 by_cases hx : k ∈ idsT x
 ·have : k ∉ idsT (wipeT id u) := d9 k hx
  rw [find_in, decide_eq_false this, decide_eq_true hx]
  exact ⟨rfl, fun h => by cases h⟩
 ·have hr : k ∈ idsT (wipeT id u) := (d12 k hk).resolve_left hx
  rw [find_in, decide_eq_true hr, decide_eq_false hx]
  refine ⟨rfl, fun _ hne => ?_⟩
  obtain ⟨_, f2, f3⟩ := keeps_facts (keeps_wipe id id u) (nodup_of d4) (nodup_of h1) hr
  refine ⟨(f2 hne).symm, ?_⟩
  by_cases hu : u.id = k
  ·rw [parR_self hu, parR_self (by rw [(wipe_id id u).1]; exact hu)]
  ·exact (f3 (by rw [(wipe_id id u).1]; exact hu)).symm
theorem lrp_move {u : T} {id parent : Idv} {m : Nat} (h : moveE u id parent m = 0) : LRP u (editT parent (insK m (findR id u).1) (wipeT id u)) id [] := by
 obtain ⟨h1, h2, h3, h4, h5, hw⟩ := move_ok h
 obtain ⟨under, n, x, d1, d2, d3, d4, d5, d6, d7, d8, d9, d10, d11, d12⟩ := del_facts h1 h4 h2
 rw [d2] at hw h5 ⊢
 simp only at hw h5 ⊢
 obtain ⟨C, q, l, r, e1, e2, e3, e4, f1, f2, f3, f4, f5, _, f7, f8⟩ := ins_facts hw
 refine ⟨f1, by simp; omega, List.nodup_nil, fun k hk => ?_⟩
 have hnv := nodup_of f1
 have hxu : x ∈ nodesT u := by have := find_node (id := id) (u := u) (by rw [d2]); rw [d2] at this; exact this
 have hxv : x ∈ nodesT (editT parent (insK m x) (wipeT id u)) := by have := find_node (id := x.id) (u := editT parent (insK m x) (wipeT id u)) (by rw [f3]); rw [f3] at this; exact this
 by_cases hx : k ∈ idsT x
 ·obtain ⟨a1, a2, a3⟩ := keeps_facts (id := id) (keeps_sub fun p hp => nodes_sub u x hxu p hp) (nodup_of d5) (nodup_of h1) hx
  obtain ⟨b1, b2, b3⟩ := keeps_facts (id := id) (keeps_sub fun p hp => nodes_sub _ x hxv p hp) (nodup_of d5) hnv hx
  refine ⟨by rw [b1]; rfl, fun _ hne => ⟨(a2 hne).symm.trans (b2 hne), ?_⟩⟩
  have hr : ¬ x.id = k := fun e => hne (e.symm.trans d3)
  exact (a3 hr).symm.trans (b3 hr)
 ·have hr : k ∈ idsT (wipeT id u) := (d12 k hk).resolve_left hx
  obtain ⟨a1, a2, a3⟩ := keeps_facts (keeps_wipe id id u) (nodup_of d4) (nodup_of h1) hr
  have hK : Keeps id (wipeT id u) (editT parent (insK m x) (wipeT id u)) := by
   have := keeps_plug (id := id) (keeps_ins q x l r) rfl C
   rw [← e1, ← e4] at this
   exact this
  obtain ⟨b1, b2, b3⟩ := keeps_facts hK (nodup_of d4) hnv hr
  refine ⟨by rw [b1]; rfl, fun _ hne => ⟨(a2 hne).symm.trans (b2 hne), ?_⟩⟩
  by_cases hu : u.id = k
  ·have h0 : (wipeT id u).id = k := by rw [(wipe_id id u).1]; exact hu
   have hv : (editT parent (insK m x) (wipeT id u)).id = (wipeT id u).id := by
    rw [e4]; conv => rhs; rw [e1]
    exact (root_plug C (x := q.setKids (l ++ x :: r)) (y := q.setKids (l ++ r)) rfl rfl).1
   rw [parR_self hu, parR_self (hv.trans h0)]
  ·have h0 : ¬ (wipeT id u).id = k := by rw [(wipe_id id u).1]; exact hu
   exact (a3 h0).symm.trans (b3 h0)
theorem lrp_own {u : T} {id : Idv} {f : T → T} (h1 : standsT u = true) (hm : id ∈ idsT u) (hf : ∀ q : T, (f q).id = q.id ∧ (f q).kids = q.kids) (hs : standsT (editT id f u) = true) : LRP u (editT id f u) id [] := by
 obtain ⟨C, e, hq, hpre, _⟩ := focus id u hm
 generalize (findR id u).1 = q at e hq
 have hpost : id ∉ postC C := (nodup_plug (x := q) (by rw [← e]; exact nodup_of h1) (hq ▸ id_self q)).2
 have e4 : editT id f u = plug C (f q) := by rw [e, edit_plug f hq C hpre hpost]
 have hi : idsT (f q) = idsT q := by rw [idsT_eq, idsT_eq q, (hf q).1, (hf q).2]
 have hids : idsT (editT id f u) = idsT u := by rw [e4, ids_plug, hi, ← ids_plug, ← e]
 refine ⟨hs, by rw [← idsT_len, ← idsT_len, hids]; rfl, List.nodup_nil, fun k hk => ?_⟩
 have hK : Keeps id u (editT id f u) := by
  have := keeps_plug (keeps_own (hf q).1 (hf q).2) (hf q).1 C
  rw [hq, ← e, ← e4] at this
  exact this
 obtain ⟨b1, b2, b3⟩ := keeps_facts hK (nodup_of h1) (nodup_of hs) hk
 refine ⟨by rw [b1]; rfl, fun _ hne => ⟨b2 hne, ?_⟩⟩
 by_cases hu : u.id = k
 ·have hv : (editT id f u).id = u.id := by
   rw [e4]; conv => rhs; rw [e]
   cases C with
   | hole => exact (hf q).1
   | node t l c r => rfl
  rw [parR_self hu, parR_self (hv.trans hu)]
 ·exact b3 hu
theorem lrp_words {u : T} {id : Idv} {l : List Wd} (h : writeE u id l = 0) : LRP u (editT id (fun q => q.setWords l) u) id [] := by
 obtain ⟨h1, hm, h3, h4, h5⟩ := write_ok h
 refine lrp_own h1 hm (fun q => ⟨rfl, rfl⟩) ?_
 obtain ⟨C, e, hq, hpre, _⟩ := focus id u hm
 generalize (findR id u).1 = q at e hq h4
 have hpost : id ∉ postC C := (nodup_plug (x := q) (by rw [← e]; exact nodup_of h1) (hq ▸ id_self q)).2
 rw [e, edit_plug (fun q => q.setWords l) hq C hpre hpost]
 rw [e] at h1
 refine stands_own h1 rfl rfl rfl ?_ (fun h => h)
 have hr := ((stands_iff _).1 h1).1
 rw [right_plug] at hr
 have ha := (alone_len hr.2).1
 unfold aloneR at ha ⊢
 simp only [Bool.and_eq_true, decide_eq_true_eq] at ha ⊢
 obtain ⟨a1, a2, a3, a4, a5⟩ := ha
 refine ⟨a1, a2, a3, ?_, ?_⟩
 ·show rowB l = true
  unfold rowB
  rw [decide_eq_true h5, Bool.true_and, List.all_eq_true]
  intro w hw
  unfold oddB at h3
  have := List.any_eq_false.1 h3 w hw
  simpa using this
 ·rw [if_neg h4] at a5
  rw [if_neg (show ¬ (q.setWords l).kind = 0 from h4)]; exact a5
theorem rel_ok {u : T} {id : Idv} {name : ByteArray} (h : relE u id name = 0) : standsT u = true ∧ labelB name = true ∧ id ∈ idsT u ∧ ¬ (findR id u).1.kind = 0 ∧ besideB u id name = false := by
 unfold relE at h
 split at h
 ·cases h
 rename_i h1
 split at h
 ·cases h
 rename_i h2
 split at h
 ·cases h
 rename_i h3
 split at h
 ·cases h
 rename_i h4
 rw [not_or, Bool.not_eq_false, Bool.not_eq_false] at h1
 rw [Bool.not_eq_false, find_in, decide_eq_true_eq] at h2
 exact ⟨h1.1, h1.2, h2, h3, by simpa using h4⟩
theorem lrp_label {u : T} {id : Idv} {name : ByteArray} (h : relE u id name = 0) : LRP u (editT id (fun q => q.setLabel name) u) id [] := by
 obtain ⟨h1, h2, hm, h4, h5⟩ := rel_ok h
 refine lrp_own h1 hm (fun q => ⟨rfl, rfl⟩) ?_
 have alone : ∀ q : T, aloneR q = true → ¬ q.kind = 0 → aloneR (q.setLabel name) = true := fun q ha hk => by
  unfold aloneR at ha ⊢
  simp only [Bool.and_eq_true, decide_eq_true_eq] at ha ⊢
  obtain ⟨a1, a2, a3, a4, _⟩ := ha
  refine ⟨a1, a2, a3, a4, ?_⟩
  rw [if_neg (show ¬ (q.setLabel name).kind = 0 from hk)]; exact h2
 by_cases h0 : u.id = id
 ·rw [findR_self h0] at h4
  rw [editT_eq, if_pos h0]
  refine stands_own (C := .hole) h1 rfl rfl rfl (alone u (alone_len ((stands_iff u).1 h1).1).1 h4) (fun _ => trivial)
 ·obtain ⟨C, q, l, x, r, e, hx, hq, n1, n2, hf, hp⟩ := focus2 h0 hm
  have hnd := nodup_of h1
  have hnd' := hnd
  rw [e] at hnd
  have hqs : q.id ∈ idsT (q.setKids (l ++ x :: r)) := by rw [ids_set]; exact List.mem_cons_self
  obtain ⟨m1, m2⟩ := nodup_plug hnd hqs
  have hxm : id ∈ idsT (q.setKids (l ++ x :: r)) := by rw [ids_set]; exact List.mem_cons_of_mem _ (mem_kid.2 (.inr (.inl (hx ▸ id_self x))))
  obtain ⟨k1, k2⟩ := nodup_plug hnd hxm
  have ns := (nodup_set (nodup_hole hnd)).1 id (hx ▸ id_self x)
  have hfq : findR q.id u = (q.setKids (l ++ x :: r), true) := by rw [e, find_plug hqs C m1]; exact findR_self rfl
  -- the edit at x, seen from above it
  have he : editT id (fun q => q.setLabel name) u = plug C (q.setKids (l ++ x.setLabel name :: r)) := by
   have hC2 : u = plug (compC C (.node q l .hole r)) x := by rw [plug_comp]; exact e
   rw [hC2, edit_plug (fun q => q.setLabel name) hx _ ?_ ?_, plug_comp]; rfl
   ·rw [pre_comp, List.mem_append]
    rintro (h | h)
    ·exact k1 h
    ·simp only [preC, List.append_nil, List.mem_cons] at h
     rcases h with h | h
     ·exact hq h.symm
     ·exact n2 h
   ·rw [post_comp, List.mem_append]
    rintro (h | h)
    ·simp only [postC, List.nil_append] at h
     exact ns.2.2 h
    ·exact k2 h
  rw [he]
  rw [hf] at h4
  have hb : besideB u id name = false := h5
  unfold besideB at hb
  rw [hp, hf, hfq] at hb
  simp only [Bool.true_and, Bool.or_eq_false_iff, decide_eq_false_iff_not] at hb
  obtain ⟨_, hb⟩ := hb
  have htk : (name, x.kind) = (name, x.kind) := rfl
  have hs := h1
  rw [e, stands_iff] at hs
  obtain ⟨u1, u2, u3, u4, u5, u6⟩ := hs
  have hi : idsT (q.setKids (l ++ x.setLabel name :: r)) = idsT (q.setKids (l ++ x :: r)) := by
   rw [ids_set, ids_set, List.flatMap_append, List.flatMap_append, List.flatMap_cons, List.flatMap_cons, idsT_eq (x.setLabel name), idsT_eq x]; rfl
  have hdx : depT (x.setLabel name) = depT x := by rw [depT_eq, depT_eq x]; rfl
  obtain ⟨hr, hk⟩ := root_plug C (x := q.setKids (l ++ x.setLabel name :: r)) (y := q.setKids (l ++ x :: r)) rfl rfl
  rw [stands_iff]
  refine ⟨?_, ?_, ?_, ?_, by rw [hr, hk]; exact u5, ?_⟩
  ·rw [right_plug, right_mid] at u1 ⊢
   obtain ⟨uC, ⟨a1, a2, a3, a4, a5⟩, uX⟩ := u1
   refine ⟨uC, ⟨a1, a2, a3, a4, ?_⟩, ?_⟩
   ·intro hmem
    obtain ⟨y, hy, hk⟩ := List.mem_map.1 hmem
    have hy2 : y ∈ l ++ x :: r := by
     rcases List.mem_append.1 hy with h | h
     ·exact List.mem_append_left _ h
     ·exact List.mem_append_right _ (List.mem_cons_of_mem _ h)
    have := List.any_eq_false.1 hb y hy2
    simp only [Bool.and_eq_true, decide_eq_true_eq, not_and] at this
    exact this (congrArg Prod.fst hk) (congrArg Prod.snd hk)
   ·have := uX
    rw [rightT_eq] at this ⊢
    simp only [Bool.and_eq_true] at this ⊢
    exact ⟨alone x this.1 h4, this.2⟩
  ·rw [dep_plug, dep_mid] at u2 ⊢; omega
  ·have hc : cntT (q.setKids (l ++ x.setLabel name :: r)) = cntT (q.setKids (l ++ x :: r)) := by rw [← idsT_len, ← idsT_len, hi]
   rw [cnt_plug] at u3 ⊢; omega
  ·rw [ids_plug, hi, ← ids_plug]; exact u4
  ·rw [kids_ids, hi, ← kids_ids]; exact u6
theorem move_nn {u : T} {id parent : Idv} {i : Int} (h : moveE u id parent i = 0) : 0 ≤ i := by
 obtain ⟨_, _, _, _, _, hw⟩ := move_ok h
 unfold wrongT at hw
 split at hw
 ·cases hw
 split at hw
 ·cases hw
 split at hw
 ·cases hw
 split at hw
 ·cases hw
 omega
theorem lrp_moveI {u : T} {id parent : Idv} {i : Int} (h : moveE u id parent i = 0) : LRP u (editT parent (insK i.toNat (findR id u).1) (wipeT id u)) id [] := by
 have h0 := move_nn h
 obtain ⟨m, rfl⟩ := Int.eq_ofNat_of_zero_le h0
 exact lrp_move h
end Tr
end Go.Proofs.YtkhjpcmpljpmjaaGreatDoor
