/-
 Editing of trees as plain functions. Plain. No condition.
-/
import Derived.Test.YtkhjpcmpljpmjaaGreatDoorHole
set_option linter.unusedSimpArgs false
set_option linter.unusedVariables false
namespace Go.Proofs.YtkhjpcmpljpmjaaGreatDoor
open Abs Facts Tr
namespace Tr
def editT (id : Idv) (f : T → T) (t : T) : T := recT (fun t l => if t.id = id then f t else t.setKids l) t
theorem editT_eq (id : Idv) (f : T → T) (t : T) : editT id f t = if t.id = id then f t else t.setKids (t.kids.map (editT id f)) := by
 unfold editT; rw [recT_eq]
def atR (id : Idv) (f : T → T) (t : T) : T × Bool := recT (fun t l => if t.id = id then (f t, true) else
 match l[findN (fun q : T × Bool => q.2) l]? with
 | some q => (t.setKids (t.kids.set (findN (fun q : T × Bool => q.2) l) q.1), true)
 | none => (t, false)) t
theorem atR_eq (id : Idv) (f : T → T) (t : T) : atR id f t = if t.id = id then (f t, true) else
  match (t.kids.map (atR id f))[findN (fun q : T × Bool => q.2) (t.kids.map (atR id f))]? with
  | some q => (t.setKids (t.kids.set (findN (fun q : T × Bool => q.2) (t.kids.map (atR id f))) q.1), true)
  | none => (t, false) := by
 unfold atR; rw [recT_eq]
theorem atR_self {id : Idv} {f : T → T} {t : T} (h : t.id = id) : atR id f t = (f t, true) := by rw [atR_eq, if_pos h]
theorem atR_kid {id : Idv} {f : T → T} {t : T} {i : Nat} (h0 : ¬ t.id = id) (hi : i < t.kids.length) (h1 : ∀ j, (hj : j < i) → (h : j < t.kids.length) → (atR id f t.kids[j]).2 = false) (h2 : (atR id f t.kids[i]).2 = true) :
  atR id f t = (t.setKids (t.kids.set i (atR id f t.kids[i]).1), true) := by
 have hf : findN (fun q : T × Bool => q.2) (t.kids.map (atR id f)) = i := findN_eq (by rw [List.length_map]; omega) (fun j hj => by rw [List.getElem_map]; exact h1 j hj (by omega)) (fun h => by rw [List.getElem_map]; exact h2)
 rw [atR_eq, if_neg h0, hf, List.getElem?_eq_getElem (by rw [List.length_map]; exact hi), List.getElem_map]
theorem atR_none {id : Idv} {f : T → T} {t : T} (h0 : ¬ t.id = id) (h1 : ∀ j, (h : j < t.kids.length) → (atR id f t.kids[j]).2 = false) : atR id f t = (t, false) := by
 have hf : findN (fun q : T × Bool => q.2) (t.kids.map (atR id f)) = t.kids.length := findN_eq (by rw [List.length_map]; omega) (fun j hj => by rw [List.getElem_map]; exact h1 j hj) (fun h => by rw [List.length_map] at h; omega)
 rw [atR_eq, if_neg h0, hf, List.getElem?_eq_none (by rw [List.length_map]; omega)]
theorem at_no {id : Idv} (f : T → T) : ∀ t : T, id ∉ idsT t → atR id f t = (t, false) := by
 refine ind1 fun t ih h => ?_
 rw [idsT_eq, List.mem_cons] at h
 refine atR_none (fun e => h (.inl e.symm)) fun j hj => ?_
 rw [ih _ (List.getElem_mem hj) fun hm => h (.inr (List.mem_flatMap.2 ⟨_, List.getElem_mem hj, hm⟩))]
theorem at_plug {id : Idv} (f : T → T) {q : T} (hq : q.id = id) : ∀ C, id ∉ preC C → atR id f (plug C q) = (plug C (f q), true)
 | .hole, _ => atR_self hq
 | .node t l c r, h => by
  obtain ⟨h1, h2, h3⟩ := pre_node h
  obtain ⟨k1, k2⟩ := kid_at l r (plug c q)
  have ih := at_plug f hq c h3
  have hk : (t.setKids (l ++ plug c q :: r)).kids[l.length]'k1 = plug c q := k2
  rw [plug, atR_kid (t := t.setKids (l ++ plug c q :: r)) (i := l.length) h1 k1 (fun j hj hl' => by
   have hl : j < (l ++ plug c q :: r).length := hl'
   show (atR id f ((l ++ plug c q :: r)[j]'hl)).2 = false
   rw [List.getElem_append_left hj, at_no f _ fun hm => h2 (List.mem_flatMap.2 ⟨_, List.getElem_mem hj, hm⟩)]) (by rw [hk, ih]), hk, ih, plug]
  show (t.setKids ((l ++ plug c q :: r).set l.length (plug c (f q))), true) = _
  rw [List.set_append_right _ _ (Nat.le_refl _), Nat.sub_self, List.set_cons_zero]
theorem edit_no {id : Idv} (f : T → T) : ∀ t : T, id ∉ idsT t → editT id f t = t := by
 refine ind1 fun t ih h => ?_
 rw [idsT_eq, List.mem_cons] at h
 rw [editT_eq, if_neg fun e => h (.inl e.symm)]
 have : t.kids.map (editT id f) = t.kids := by
  conv => rhs; rw [← List.map_id t.kids]
  exact List.map_congr_left fun k hk => ih k hk fun hm => h (.inr (List.mem_flatMap.2 ⟨_, hk, hm⟩))
 rw [this, setKids_self]
theorem edits_no {id : Idv} (f : T → T) {l : List T} (h : id ∉ l.flatMap idsT) : l.map (editT id f) = l := by
 conv => rhs; rw [← List.map_id l]
 exact List.map_congr_left fun k hk => edit_no f k fun hm => h (List.mem_flatMap.2 ⟨_, hk, hm⟩)
theorem edit_plug {id : Idv} (f : T → T) {q : T} (hq : q.id = id) : ∀ C, id ∉ preC C → id ∉ postC C → editT id f (plug C q) = plug C (f q)
 | .hole, _, _ => by rw [plug, plug, editT_eq, if_pos hq]
 | .node t l c r, h, h' => by
  obtain ⟨h1, h2, h3⟩ := pre_node h
  obtain ⟨h4, h5⟩ := post_node h'
  rw [plug, editT_eq, if_neg (show ¬ (t.setKids _).id = id from h1), plug]
  show t.setKids ((l ++ plug c q :: r).map (editT id f)) = _
  rw [List.map_append, List.map_cons, edit_plug f hq c h3 h4, edits_no f h2, edits_no f h5]
def keepK (id : Idv) (k : T) : Bool := decide (k.id ≠ id)
theorem keepK_t {id : Idv} {k : T} (h : ¬ k.id = id) : keepK id k = true := decide_eq_true h
theorem keepK_f {id : Idv} {k : T} (h : k.id = id) : keepK id k = false := decide_eq_false fun g => g h
def wipeT (id : Idv) (t : T) : T := recT (fun t l => t.setKids (((t.kids.zip l).filter fun p => keepK id p.1).map (·.2))) t
theorem zip_filter (p : T → Bool) (g : T → T) : ∀ l : List T, ((l.zip (l.map g)).filter fun q => p q.1).map (·.2) = (l.filter p).map g
 | [] => rfl
 | x :: l => by
  rw [List.map_cons, List.zip_cons_cons, List.filter_cons, List.filter_cons]
  show (if p x = true then _ else _ : List (T × T)).map (·.2) = _
  split
  ·rw [List.map_cons, List.map_cons, zip_filter p g l]
  ·rw [zip_filter p g l]
theorem wipeT_eq (id : Idv) (t : T) : wipeT id t = t.setKids ((t.kids.filter (keepK id)).map (wipeT id)) := by
 conv => lhs; unfold wipeT; rw [recT_eq]
 show t.setKids (((t.kids.zip (t.kids.map (wipeT id))).filter fun p => keepK id p.1).map (·.2)) = _
 rw [zip_filter (keepK id) (wipeT id)]
theorem wipe_no {id : Idv} : ∀ t : T, (∀ k ∈ t.kids, id ∉ idsT k) → wipeT id t = t := by
 refine ind1 fun t ih h => ?_
 rw [wipeT_eq]
 have h1 : t.kids.filter (keepK id) = t.kids := List.filter_eq_self.2 fun k hk => keepK_t fun e => h k hk (e ▸ id_self k)
 have h2 : t.kids.map (wipeT id) = t.kids := by
  conv => rhs; rw [← List.map_id t.kids]
  exact List.map_congr_left fun k hk => ih k hk fun k' hk' hm => h k hk (by rw [idsT_eq]; exact List.mem_cons_of_mem _ (List.mem_flatMap.2 ⟨_, hk', hm⟩))
 rw [h1, h2, setKids_self]
theorem wipes_no {id : Idv} {l : List T} (h : id ∉ l.flatMap idsT) : (l.filter (keepK id)).map (wipeT id) = l := by
 have h1 : l.filter (keepK id) = l := List.filter_eq_self.2 fun k hk => keepK_t fun e => h (List.mem_flatMap.2 ⟨_, hk, e ▸ id_self k⟩)
 rw [h1]
 conv => rhs; rw [← List.map_id l]
 refine List.map_congr_left fun k hk => wipe_no k fun k' hk' hm => h (List.mem_flatMap.2 ⟨k, hk, ?_⟩)
 rw [idsT_eq]; exact List.mem_cons_of_mem _ (List.mem_flatMap.2 ⟨_, hk', hm⟩)
theorem wipe_here {id : Idv} {q x : T} {l r : List T} (hx : x.id = id) (hl : id ∉ l.flatMap idsT) (hr : id ∉ r.flatMap idsT) : wipeT id (q.setKids (l ++ x :: r)) = q.setKids (l ++ r) := by
 rw [wipeT_eq]
 show q.setKids (((l ++ x :: r).filter (keepK id)).map (wipeT id)) = _
 rw [List.filter_append, List.filter_cons, if_neg (by rw [keepK_f hx]; simp), List.map_append, wipes_no hl, wipes_no hr]
theorem wipe_plug {id : Idv} {q x : T} {l r : List T} (hq : ¬ q.id = id) (hx : x.id = id) (hl : id ∉ l.flatMap idsT) (hr : id ∉ r.flatMap idsT) : ∀ C, id ∉ preC C → id ∉ postC C → wipeT id (plug C (q.setKids (l ++ x :: r))) = plug C (q.setKids (l ++ r))
 | .hole, _, _ => wipe_here hx hl hr
 | .node t a c b, h, h' => by
  obtain ⟨h1, h2, h3⟩ := pre_node h
  obtain ⟨h4, h5⟩ := post_node h'
  have hc : ¬ (plug c (q.setKids (l ++ x :: r))).id = id := by
   cases c with
   | hole => exact hq
   | node t' l' c' r' => exact (pre_node h3).1
  rw [plug, wipeT_eq]
  show t.setKids (((a ++ plug c (q.setKids (l ++ x :: r)) :: b).filter (keepK id)).map (wipeT id)) = _
  rw [List.filter_append, List.filter_cons, if_pos (keepK_t hc), List.map_append, List.map_cons, wipes_no h2, wipes_no h5, wipe_plug hq hx hl hr c h3 h4, plug]
def insK (i : Nat) (x : T) (p : T) : T := p.setKids (p.kids.take i ++ x :: p.kids.drop i)
def delK (i : Nat) (p : T) : T := p.setKids (p.kids.eraseIdx i)
theorem insK_mid (q x : T) (l r : List T) : insK l.length x (q.setKids (l ++ r)) = q.setKids (l ++ x :: r) := by
 unfold insK
 show q.setKids ((l ++ r).take l.length ++ x :: (l ++ r).drop l.length) = _
 rw [List.take_left, List.drop_left]
theorem delK_mid (q x : T) (l r : List T) : delK l.length (q.setKids (l ++ x :: r)) = q.setKids (l ++ r) := by
 unfold delK
 show q.setKids ((l ++ x :: r).eraseIdx l.length) = _
 rw [List.eraseIdx_append_of_length_le (Nat.le_refl _), Nat.sub_self, List.eraseIdx_cons_zero]
theorem nodup_plug {C : Ctx} {x : T} (h : (idsT (plug C x)).Nodup) {id : Idv} (hid : id ∈ idsT x) : id ∉ preC C ∧ id ∉ postC C := by
 rw [ids_plug, List.nodup_append] at h
 obtain ⟨_, h2, h3⟩ := h
 rw [List.nodup_append] at h2
 exact ⟨fun hm => h3 id hm id (List.mem_append_left _ hid) rfl, fun hm => h2.2.2 id hid id hm rfl⟩
theorem nodup_hole {C : Ctx} {x : T} (h : (idsT (plug C x)).Nodup) : (idsT x).Nodup := by
 rw [ids_plug, List.nodup_append] at h
 exact (List.nodup_append.1 h.2.1).1
theorem ids_set (t : T) (l : List T) : idsT (t.setKids l) = t.id :: l.flatMap idsT := idsT_eq _
theorem nodup_set {q x : T} {l r : List T} (h : (idsT (q.setKids (l ++ x :: r))).Nodup) : (∀ i ∈ idsT x, i ≠ q.id ∧ i ∉ l.flatMap idsT ∧ i ∉ r.flatMap idsT) ∧ (idsT x).Nodup ∧ (idsT (q.setKids (l ++ r))).Nodup := by
 rw [ids_set, List.flatMap_append, List.flatMap_cons] at h
 rw [ids_set, List.flatMap_append]
 rw [List.nodup_cons, List.nodup_append, List.nodup_append] at h
 obtain ⟨h0, h1, ⟨h2, h3, h4⟩, h5⟩ := h
 refine ⟨fun i hi => ⟨fun e => h0 ?_, fun hm => h5 i hm i (List.mem_append_left _ hi) rfl, fun hm => h4 i hi i hm rfl⟩, h2, ?_⟩
 ·rw [← e]; exact List.mem_append_right _ (List.mem_append_left _ hi)
 ·rw [List.nodup_cons, List.nodup_append]
  refine ⟨fun hm => h0 ?_, h1, h3, fun a ha b hb => h5 a ha b (List.mem_append_right _ hb)⟩
  rcases List.mem_append.1 hm with h | h
  ·exact List.mem_append_left _ h
  ·exact List.mem_append_right _ (List.mem_append_right _ h)
theorem at_edit {id : Idv} (f : T → T) {u : T} (hn : (idsT u).Nodup) (hm : id ∈ idsT u) : atR id f u = (editT id f u, true) := by
 obtain ⟨C, h1, h2, h3, _⟩ := focus id u hm
 generalize (findR id u).1 = x at h1 h2
 subst h1
 rw [at_plug f h2 C h3, edit_plug f h2 C h3 (nodup_plug hn (h2 ▸ id_self x)).2]
theorem at_wipe {id : Idv} {u : T} (hn : (idsT u).Nodup) (h0 : ¬ u.id = id) (hm : id ∈ idsT u) : ∃ i : Nat, (parR id u).2.1 = i ∧ (parR id u).2.2 = true ∧ atR (parR id u).1 (delK i) u = (wipeT id u, true) ∧ (∃ q, findR (parR id u).1 u = (q, true) ∧ i < q.kids.length ∧ q ∈ nodesT u) := by
 obtain ⟨C, q, l, x, r, e, hx, hq, n1, n2, hf, hp⟩ := focus2 h0 hm
 rw [hp]
 refine ⟨l.length, rfl, rfl, ?_⟩
 subst e
 obtain ⟨m1, m2⟩ := nodup_plug hn (id := q.id) (by rw [ids_set]; exact List.mem_cons_self)
 have hxm : id ∈ idsT (q.setKids (l ++ x :: r)) := by rw [ids_set]; exact List.mem_cons_of_mem _ (mem_kid.2 (.inr (.inl (hx ▸ id_self x))))
 obtain ⟨k1, k2⟩ := nodup_plug hn hxm
 have ns := (nodup_set (nodup_hole hn)).1 id (hx ▸ id_self x)
 refine ⟨?_, q.setKids (l ++ x :: r), ?_, by show _ < (l ++ x :: r).length; simp, ?_⟩
 ·show atR q.id (delK l.length) _ = _
  rw [at_plug (id := q.id) (delK l.length) (q := q.setKids (l ++ x :: r)) rfl C m1, delK_mid, wipe_plug hq hx n2 ns.2.2 C k1 k2]
 ·rw [find_plug (by rw [ids_set]; exact List.mem_cons_self) C m1]; exact findR_self rfl
 ·clear hf hp hn hm h0 n1 m1 m2 hxm k1 k2 ns
  induction C with
  | hole => exact nodesT_self _
  | node t a c b ih => exact nodesT_kid (t := plug (.node t a c b) _) (k := plug c _) (by show _ ∈ a ++ _ :: b; simp) ih
end Tr
end Go.Proofs.YtkhjpcmpljpmjaaGreatDoor
