/-
 Trees with a hole, and what is found in them. Plain. No condition.
-/
import Derived.Test.YtkhjpcmpljpmjaaGreatDoorPathsLaw
set_option linter.unusedSimpArgs false
set_option linter.unusedVariables false
namespace Go.Proofs.YtkhjpcmpljpmjaaGreatDoor
open Abs Facts Tr
namespace Tr
def T.setKids (t : T) (l : List T) : T := .mk t.id t.kind t.label t.head t.words l
theorem setKids_self (t : T) : t.setKids t.kids = t := T.eta t
inductive Ctx where
 | hole
 | node (t : T) (l : List T) (c : Ctx) (r : List T)
def plug : Ctx → T → T
 | .hole, x => x
 | .node t l c r, x => t.setKids (l ++ plug c x :: r)
def preC : Ctx → List Idv
 | .hole => []
 | .node t l c _ => t.id :: (l.flatMap idsT ++ preC c)
def postC : Ctx → List Idv
 | .hole => []
 | .node _ _ c r => postC c ++ r.flatMap idsT
def lenC : Ctx → Nat
 | .hole => 0
 | .node _ _ c _ => lenC c + 1
def depC : Ctx → Nat
 | .hole => 0
 | .node _ l c r => max (depF ((l ++ r).map depT)) (1 + depC c)
def spineC : Ctx → List Idv
 | .hole => []
 | .node t _ c _ => spineC c ++ [t.id]
theorem spine_len : ∀ C, (spineC C).length = lenC C
 | .hole => rfl
 | .node t l c r => by simp [spineC, lenC, spine_len c]
theorem ids_plug (x : T) : ∀ C, idsT (plug C x) = preC C ++ (idsT x ++ postC C)
 | .hole => by simp [plug, preC, postC]
 | .node t l c r => by
  rw [plug, idsT_eq]
  show t.id :: (l ++ plug c x :: r).flatMap idsT = _
  rw [List.flatMap_append, List.flatMap_cons, ids_plug x c, preC, postC]
  simp only [List.cons_append, List.append_assoc]
theorem cnt_plug (C : Ctx) (x : T) : cntT (plug C x) = (preC C).length + cntT x + (postC C).length := by
 rw [← idsT_len, ids_plug, List.length_append, List.length_append, idsT_len]; omega
theorem foldl_dep (l : List Nat) : ∀ a : Nat, l.foldl (fun d x => max d (1 + x)) a = max a (depF l) := by
 unfold depF
 induction l with
 | nil => intro a; simp
 | cons y l ih =>
  intro a
  rw [List.foldl_cons, List.foldl_cons, ih, ih (max 0 (1 + y))]; omega
theorem depF_append (l r : List Nat) : depF (l ++ r) = max (depF l) (depF r) := by
 conv => lhs; unfold depF
 rw [List.foldl_append, foldl_dep r]; rfl
theorem depF_cons (a : Nat) (l : List Nat) : depF (a :: l) = max (1 + a) (depF l) := by
 conv => lhs; unfold depF
 rw [List.foldl_cons, foldl_dep l]; omega
theorem dep_plug (x : T) : ∀ C, depT (plug C x) = max (depC C) (lenC C + depT x)
 | .hole => by simp [plug, depC, lenC]
 | .node t l c r => by
  rw [plug, depT_eq]
  show depF ((l ++ plug c x :: r).map depT) = _
  rw [List.map_append, List.map_cons, depF_append, depF_cons, dep_plug x c, depC, lenC, List.map_append, depF_append]
  omega
def keyC : Ctx → Int × ByteArray → Int × ByteArray
 | .hole, k => k
 | .node t _ _ _, _ => keyK t
theorem key_plug (C : Ctx) (x : T) : keyK (plug C x) = keyC C (keyK x) := by cases C <;> rfl
def ctxR : Ctx → Int × ByteArray → Prop
 | .hole, _ => True
 | .node t l c r, k => (aloneR (t.setKids (l ++ t :: r)) = true ∧ (∀ y ∈ l ++ r, nestsB t.kind y.kind = true ∧ rightT y = true) ∧ nestsB t.kind (keyC c k).1 = true ∧ ((l ++ r).map keyK).Nodup ∧ keyC c k ∉ (l ++ r).map keyK) ∧ ctxR c k
theorem alone_kids (t : T) {l m : List T} (h : l.length = m.length) : aloneR (t.setKids l) = aloneR (t.setKids m) := by
 unfold aloneR
 show (_ && (decide (l.length ≤ 64) && _)) = (_ && (decide (m.length ≤ 64) && _))
 rw [h]; rfl
theorem nodup_mid {α : Type} (l r : List α) (a : α) : (l ++ a :: r).Nodup ↔ (l ++ r).Nodup ∧ a ∉ l ++ r := by
 rw [List.perm_middle.nodup_iff, List.nodup_cons]; exact And.comm
theorem right_mid (t p : T) (l r : List T) : rightT (t.setKids (l ++ p :: r)) = true ↔
  (aloneR (t.setKids (l ++ t :: r)) = true ∧ (∀ y ∈ l ++ r, nestsB t.kind y.kind = true ∧ rightT y = true) ∧ nestsB t.kind p.kind = true ∧ ((l ++ r).map keyK).Nodup ∧ keyK p ∉ (l ++ r).map keyK) ∧ rightT p = true := by
 have hk : ((l ++ p :: r).map keyK).Nodup ↔ ((l ++ r).map keyK).Nodup ∧ keyK p ∉ (l ++ r).map keyK := by
  rw [List.map_append, List.map_cons, nodup_mid, List.map_append]
 rw [rightT_eq]
 show (aloneR (t.setKids (l ++ p :: r)) && (((l ++ p :: r).all fun k => nestsB t.kind k.kind) && ((l ++ p :: r).all rightT && decide (((l ++ p :: r).map keyK).Nodup)))) = true ↔ _
 rw [alone_kids t (l := l ++ p :: r) (m := l ++ t :: r) (by simp)]
 simp only [Bool.and_eq_true, decide_eq_true_eq, List.all_eq_true, hk]
 constructor
 ·rintro ⟨h1, h2, h3, h4, h5⟩
  refine ⟨⟨h1, fun y hy => ?_, h2 p (by simp), h4, h5⟩, h3 p (by simp)⟩
  have : y ∈ l ++ p :: r := by
   rcases List.mem_append.1 hy with h | h
   ·exact List.mem_append_left _ h
   ·exact List.mem_append_right _ (List.mem_cons_of_mem _ h)
  exact ⟨h2 y this, h3 y this⟩
 ·rintro ⟨⟨h1, h2, h3, h4, h5⟩, h6⟩
  have hm : ∀ y ∈ l ++ p :: r, y = p ∨ y ∈ l ++ r := fun y hy => by
   rcases List.mem_append.1 hy with h | h
   ·exact .inr (List.mem_append_left _ h)
   ·rcases List.mem_cons.1 h with h | h
    ·exact .inl h
    ·exact .inr (List.mem_append_right _ h)
  refine ⟨h1, fun y hy => ?_, fun y hy => ?_, h4, h5⟩
  ·rcases hm y hy with rfl | h
   ·exact h3
   ·exact (h2 y h).1
  ·rcases hm y hy with rfl | h
   ·exact h6
   ·exact (h2 y h).2
theorem right_plug (x : T) : ∀ C, rightT (plug C x) = true ↔ ctxR C (keyK x) ∧ rightT x = true
 | .hole => by simp [plug, ctxR]
 | .node t l c r => by
  rw [plug, right_mid, right_plug x c, ctxR, ← key_plug]
  exact (and_assoc).symm
theorem mem_kid {id : Idv} {l r : List T} {p : T} : id ∈ (l ++ p :: r).flatMap idsT ↔ id ∈ l.flatMap idsT ∨ id ∈ idsT p ∨ id ∈ r.flatMap idsT := by
 rw [List.flatMap_append, List.flatMap_cons, List.mem_append, List.mem_append]
theorem kid_at (l r : List T) (p : T) : ∃ h : l.length < (l ++ p :: r).length, (l ++ p :: r)[l.length] = p := ⟨by simp, by simp⟩
theorem before_nil {id : Idv} {l : List T} (h : id ∉ l.flatMap idsT) (p : T) (r : List T) : ∀ j, (hj : j < l.length) → (hl : j < (l ++ p :: r).length) → wayT id (l ++ p :: r)[j] = [] := fun j hj hl => by
 rw [List.getElem_append_left hj, way_nil]
 exact fun hm => h (List.mem_flatMap.2 ⟨_, List.getElem_mem hj, hm⟩)
section
variable {id : Idv} {t p : T} {l r : List T}
theorem way_mid (h0 : ¬ t.id = id) (hl : id ∉ l.flatMap idsT) (hp : id ∈ idsT p) : wayT id (t.setKids (l ++ p :: r)) = t.setKids (l ++ p :: r) :: wayT id p := by
 obtain ⟨h1, h2⟩ := kid_at l r p
 have := wayT_kid (id := id) (t := t.setKids (l ++ p :: r)) (i := l.length) h0 h1 (before_nil hl p r) (by
  show wayT id (l ++ p :: r)[l.length] ≠ []
  rw [h2]; exact way_ne.2 hp)
 refine this.trans ?_
 show _ :: wayT id (l ++ p :: r)[l.length] = _
 rw [h2]
theorem find_mid (h0 : ¬ t.id = id) (hl : id ∉ l.flatMap idsT) (hp : id ∈ idsT p) : findR id (t.setKids (l ++ p :: r)) = findR id p :=
 findR_cons (way_mid h0 hl hp) (way_ne.2 hp)
theorem anc_mid (h0 : ¬ t.id = id) (hl : id ∉ l.flatMap idsT) (hp : id ∈ idsT p) : ancR id (t.setKids (l ++ p :: r)) = ancR id p ++ [t.id] := by
 obtain ⟨h1, h2⟩ := kid_at l r p
 have := ancR_kid (id := id) (t := t.setKids (l ++ p :: r)) (i := l.length) h0 h1 (before_nil hl p r) (by
  show wayT id (l ++ p :: r)[l.length] ≠ []
  rw [h2]; exact way_ne.2 hp)
 refine this.trans ?_
 show ancR id (l ++ p :: r)[l.length] ++ _ = _
 rw [h2]; rfl
theorem par_here (h0 : ¬ t.id = id) (hl : id ∉ l.flatMap idsT) (hp : p.id = id) : parR id (t.setKids (l ++ p :: r)) = (t.id, (l.length : Int), true) := by
 obtain ⟨h1, h2⟩ := kid_at l r p
 exact parR_here (id := id) (t := t.setKids (l ++ p :: r)) (i := l.length) h0 h1 (before_nil hl p r) (by
  show (l ++ p :: r)[l.length].id = id
  rw [h2]; exact hp)
theorem par_mid (h0 : ¬ t.id = id) (hl : id ∉ l.flatMap idsT) (hp : ¬ p.id = id) (hm : id ∈ idsT p) : parR id (t.setKids (l ++ p :: r)) = parR id p := by
 obtain ⟨h1, h2⟩ := kid_at l r p
 have := parR_in (id := id) (t := t.setKids (l ++ p :: r)) (i := l.length) h0 h1 (before_nil hl p r) (by
  show ¬ (l ++ p :: r)[l.length].id = id
  rw [h2]; exact hp) (by
  show wayT id (l ++ p :: r)[l.length] ≠ []
  rw [h2]; exact way_ne.2 hm)
 refine this.trans ?_
 show parR id (l ++ p :: r)[l.length] = _
 rw [h2]
end
theorem id_self (x : T) : x.id ∈ idsT x := by rw [idsT_eq]; exact List.mem_cons_self
theorem pre_node {id : Idv} {t : T} {l r : List T} {c : Ctx} (h : id ∉ preC (.node t l c r)) : ¬ t.id = id ∧ id ∉ l.flatMap idsT ∧ id ∉ preC c := by
 rw [preC, List.mem_cons, List.mem_append] at h
 exact ⟨fun e => h (.inl e.symm), fun e => h (.inr (.inl e)), fun e => h (.inr (.inr e))⟩
theorem post_node {id : Idv} {t : T} {l r : List T} {c : Ctx} (h : id ∉ postC (.node t l c r)) : id ∉ postC c ∧ id ∉ r.flatMap idsT := by
 rw [postC, List.mem_append] at h
 exact ⟨fun e => h (.inl e), fun e => h (.inr e)⟩
theorem mem_plug {id : Idv} (C : Ctx) {x : T} (h : id ∈ idsT x) : id ∈ idsT (plug C x) := by
 rw [ids_plug]; exact List.mem_append_right _ (List.mem_append_left _ h)
theorem find_plug {id : Idv} {x : T} (hx : id ∈ idsT x) : ∀ C, id ∉ preC C → findR id (plug C x) = findR id x
 | .hole, _ => rfl
 | .node t l c r, h => by
  obtain ⟨h1, h2, h3⟩ := pre_node h
  rw [plug, find_mid h1 h2 (mem_plug c hx), find_plug hx c h3]
theorem anc_plug {id : Idv} {x : T} (hx : id ∈ idsT x) : ∀ C, id ∉ preC C → ancR id (plug C x) = ancR id x ++ spineC C
 | .hole, _ => by simp [plug, spineC]
 | .node t l c r, h => by
  obtain ⟨h1, h2, h3⟩ := pre_node h
  rw [plug, anc_mid h1 h2 (mem_plug c hx), anc_plug hx c h3, spineC, List.append_assoc]
theorem par_plug {id : Idv} {x : T} (hx : id ∈ idsT x) (hn : ¬ x.id = id) : ∀ C, id ∉ preC C → parR id (plug C x) = parR id x
 | .hole, _ => rfl
 | .node t l c r, h => by
  obtain ⟨h1, h2, h3⟩ := pre_node h
  have h4 : ¬ (plug c x).id = id := by
   cases c with
   | hole => exact hn
   | node t' l' c' r' => exact (pre_node h3).1
  rw [plug, par_mid h1 h2 h4 (mem_plug c hx), par_plug hx hn c h3]
theorem focus (id : Idv) : ∀ u : T, id ∈ idsT u → ∃ C, u = plug C (findR id u).1 ∧ (findR id u).1.id = id ∧ id ∉ preC C ∧ (findR id u).2 = true := by
 refine ind1 fun u ih hm => ?_
 by_cases h0 : u.id = id
 ·rw [findR_self h0]
  exact ⟨.hole, rfl, h0, by simp [preC], rfl⟩
 ·obtain ⟨i, hi, h1, h2, h3⟩ := way_split h0 (way_ne.2 hm)
  rw [findR_cons h3 h2]
  obtain ⟨C, g1, g2, g3, g4⟩ := ih _ (List.getElem_mem hi) (way_ne.1 h2)
  refine ⟨.node u (u.kids.take i) C (u.kids.drop (i + 1)), ?_, g2, ?_, g4⟩
  ·rw [plug, ← g1, ← List.drop_eq_getElem_cons hi, List.take_append_drop, setKids_self]
  ·rw [preC, List.mem_cons, List.mem_append]
   rintro (h | h | h)
   ·exact h0 h.symm
   ·obtain ⟨k, hk, hki⟩ := List.mem_flatMap.1 h
    obtain ⟨j, hj, rfl⟩ := List.getElem_of_mem hk
    rw [List.getElem_take] at hki
    rw [List.length_take] at hj
    have := h1 j (by omega) (by omega)
    rw [way_nil] at this
    exact this hki
   ·exact g3 h
theorem findR_out {id : Idv} {u : T} (h : id ∉ idsT u) : findR id u = (T.zero, false) := findR_no ((way_nil id u).2 h)
theorem find_in {id : Idv} {u : T} : (findR id u).2 = decide (id ∈ idsT u) := by
 by_cases h : id ∈ idsT u
 ·obtain ⟨_, _, _, _, h4⟩ := focus id u h
  rw [h4, decide_eq_true h]
 ·rw [findR_out h, decide_eq_false h]
theorem focus2 {id : Idv} {u : T} (h0 : ¬ u.id = id) (hm : id ∈ idsT u) : ∃ (C : Ctx) (q : T) (l : List T) (x : T) (r : List T), u = plug C (q.setKids (l ++ x :: r)) ∧ x.id = id ∧ ¬ q.id = id ∧ id ∉ preC C ∧ id ∉ l.flatMap idsT ∧ findR id u = (x, true) ∧ parR id u = (q.id, (l.length : Int), true) := by
 obtain ⟨C, h1, h2, h3, h4⟩ := focus id u hm
 -- the last frame of C
 have last : ∀ C : Ctx, ∀ x : T, ¬ (plug C x).id = id → x.id = id → id ∉ preC C → ∃ (C' : Ctx) (q : T) (l r : List T), plug C x = plug C' (q.setKids (l ++ x :: r)) ∧ ¬ q.id = id ∧ id ∉ preC C' ∧ id ∉ l.flatMap idsT := by
  intro C x
  induction C with
  | hole => intro h hx _; exact (h hx).elim
  | node t l c r ih =>
   intro h hx hn
   obtain ⟨n1, n2, n3⟩ := pre_node hn
   by_cases hc : (plug c x).id = id
   ·cases c with
    | hole => exact ⟨.hole, t, l, r, rfl, n1, by simp [preC], n2⟩
    | node t' l' c' r' => exact ((pre_node n3).1 hc).elim
   ·obtain ⟨C', q, l', r', e, g1, g2, g3⟩ := ih hc hx n3
    refine ⟨.node t l C' r, q, l', r', ?_, g1, ?_, g3⟩
    ·rw [plug, e, plug]
    ·rw [preC, List.mem_cons, List.mem_append]
     rintro (h | h | h)
     ·exact n1 h.symm
     ·exact n2 h
     ·exact g2 h
 generalize hx : (findR id u).1 = x at h1 h2
 obtain ⟨C', q, l, r, e, g1, g2, g3⟩ := last C x (by rw [← h1]; exact h0) h2 h3
 refine ⟨C', q, l, x, r, h1.trans e, h2, g1, g2, g3, ?_, ?_⟩
 ·rw [← hx, ← h4]
 ·rw [h1, e, par_plug (x := q.setKids (l ++ x :: r)) (by rw [idsT_eq, List.mem_cons]; exact .inr (mem_kid.2 (.inr (.inl (h2 ▸ id_self x))))) g1 C' g2, par_here g1 g3 h2]
end Tr
end Go.Proofs.YtkhjpcmpljpmjaaGreatDoor
