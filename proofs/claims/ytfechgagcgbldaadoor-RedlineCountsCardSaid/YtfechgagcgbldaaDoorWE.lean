import Derived.Test.YtfechgagcgbldaaDoorWD
import Derived.WalkKit
import Derived.Lib.Walk
import Derived.Lib.SliceRun
import Derived.Lib.AppendZerosOnto
import Derived.Lib.Overlaps
import Derived.Laws.Externs
import Derived.Laws.NewBlocks
import Derived.Shelf.Spec.SlicesInsert
/-
 Lemmas of the claim. No condition but those that each names.
-/
set_option linter.unusedSimpArgs false
set_option linter.unusedVariables false
set_option maxHeartbeats 8000000
set_option maxRecDepth 100000
set_option linter.unusedSectionVars false
namespace Go.Proofs.YtfechgagcgbldaaDoor
section
open Abs
theorem Lis.sel_rise (l : List Int) : ∀ n : Nat, n <= l.length -> (Lis.sel l n).Pairwise fun i j => i < j /\ l.getD i 0 < l.getD j 0
 | 0, _ => by simp [Lis.sel]
 | n + 1, hn => by
  have ih := Lis.sel_rise l n (by omega)
  rw [Lis.sel_succ]
  unfold Lis.sel1
  split
  ·rename_i h
   rw [List.pairwise_append]
   refine ⟨ih, List.pairwise_singleton _ _, fun i hi j hj => ?_⟩
   rw [List.mem_singleton] at hj
   rw [hj]
   refine ⟨Lis.sel_lt l n i hi, ?_⟩
   rcases h.2.2 with h | h
   ·rw [h] at hi; cases hi
   ·-- the last of the row is the greatest
    have key : ∀ m : List Nat, m.Pairwise (fun i j => i < j /\ l.getD i 0 < l.getD j 0) -> i ∈ m -> i = m.getLastD 0 \/ l.getD i 0 < l.getD (m.getLastD 0) 0 := by
     intro m hp him
     obtain ⟨a, x, rfl⟩ : ∃ a x, m = a ++ [x] := ⟨m.dropLast, m.getLast (by intro e; rw [e] at him; cases him), (List.dropLast_concat_getLast _).symm⟩
     rw [List.pairwise_append] at hp
     have e : (a ++ [x]).getLastD 0 = x := by simp
     rw [e]
     rcases List.mem_append.1 him with h | h
     ·exact .inr (hp.2.2 i h x (by simp)).2
     ·rw [List.mem_singleton] at h; exact .inl h
    rcases key _ ih hi with e | e
    ·rw [e]; exact h
    ·omega
  ·exact ih
theorem Lis.lis_rise (l : List Int) : (Lis.lis l).Pairwise (fun i j => i < j /\ l.getD i 0 < l.getD j 0) /\ ∀ i ∈ Lis.lis l, i < l.length := by
 unfold Lis.lis
 split
 ·exact ⟨List.Pairwise.nil, fun i hi => by cases hi⟩
 ·exact ⟨Lis.sel_rise l _ (Nat.le_refl _), Lis.sel_lt l _⟩
namespace Tr
theorem zex {α : Type} [DecidableEq α] {s l : List α} (h : s.Sublist l) (hn : l.Nodup) : l.filter (fun x => decide (x ∈ s)) = s := by
 induction h with
 | slnil => rfl
 | @cons s l a h ih =>
  rw [List.nodup_cons] at hn
  rw [List.filter_cons_of_neg (by simpa using fun e => hn.1 (h.subset e))]
  exact ih hn.2
 | @cons_cons s l a h ih =>
  rw [List.nodup_cons] at hn
  rw [List.filter_cons_of_pos (by simp)]
  congr 1
  rw [<- ih hn.2]
  refine List.filter_congr fun x hx => ?_
  have : x ≠ a := fun e => hn.1 (e ▸ hx)
  rw [ih hn.2]
  simp [this]
theorem zge {α : Type} (d : α) (l : List α) : ∀ (p : List Nat) (n : Nat), p.Pairwise (· < ·) -> (∀ i ∈ p, n <= i /\ i < l.length) -> (p.map fun i => l.getD i d).Sublist (l.drop n)
 | [], _, _, _ => List.nil_sublist _
 | i :: p, n, hp, h => by
  rw [List.pairwise_cons] at hp
  obtain ⟨h1, h2⟩ := h i (by simp)
  have ih := zge d l p (i + 1) hp.2 (fun j hj => ⟨hp.1 j hj, (h j (by simp [hj])).2⟩)
  have e : l.drop i = l[i] :: l.drop (i + 1) := List.drop_eq_getElem_cons h2
  have h3 : (l.drop i).Sublist (l.drop n) := by
   rw [show i = n + (i - n) by omega, <- List.drop_drop]; exact List.drop_sublist _ _
  refine List.Sublist.trans ?_ h3
  rw [e, List.map_cons, show l.getD i d = l[i] by simp [List.getD, h2]]
  exact ih.cons_cons _
theorem z57 : ∀ t : T, (idsT t).Nodup -> ∀ p ∈ nodesT t, ∀ y ∈ p.kids, (zed y.id t).1 = p.id := by
 refine z6x fun t ih hn p hp y hy => ?_
 obtain ⟨g1, g2, g3⟩ := zan hn
 rw [z17, List.mem_cons] at hp
 rcases hp with rfl | hp
 ·obtain ⟨i, hi, rfl⟩ := List.getElem_of_mem hy
  rw [zr0 (id := p.kids[i].id) (t := p) (i := i) (fun e => g1 _ hy (e ▸ z5w _)) hi (fun j hj h => (z6q _ _).2 (g3 i j hi h (by omega) _ (z5w _))) rfl]
 ·obtain ⟨k, O, hpk⟩ := List.mem_flatMap.1 hp
  obtain ⟨i, hi, rfl⟩ := List.getElem_of_mem O
  have hyi : y.id ∈ idsT t.kids[i] := List.mem_map.2 ⟨y, z12 _ p hpk y (z0k hy (z05 y)), rfl⟩
  have hne : ¬ t.kids[i].id = y.id := by
   intro e
   have hn2 := g2 _ O
   have key : ∀ t : T, (idsT t).Nodup -> ∀ p ∈ nodesT t, ∀ y ∈ p.kids, t.id ≠ y.id := by
    intro t hn p hp y hy e
    rw [z35, List.nodup_cons] at hn
    refine hn.1 ?_
    rw [e]
    rw [z17, List.mem_cons] at hp
    rcases hp with rfl | hp
    ·exact List.mem_flatMap.2 ⟨y, hy, z5w y⟩
    ·obtain ⟨k, O, hpk⟩ := List.mem_flatMap.1 hp
     refine List.mem_flatMap.2 ⟨k, O, List.mem_map.2 ⟨y, ?_, rfl⟩⟩
     exact z12 k p hpk y (z0k hy (z05 y))
   exact key _ hn2 p hpk y hy e
  rw [zxh (id := y.id) (t := t) (i := i) (fun e => g1 _ O (e ▸ hyi)) hi (fun j hj h => (z6q _ _).2 (g3 i j hi h (by omega) _ hyi)) hne (zi8.2 hyi)]
  exact ih _ O (g2 _ O) p hpk y hy
theorem z81 {t : T} (hn : (idsT t).Nodup) {q k : T} (hq : q ∈ nodesT t) (O : k ∈ q.kids) : ¬ t.id = k.id := by
 intro e
 rw [z35, List.nodup_cons] at hn
 refine hn.1 ?_
 rw [e]
 rw [z17, List.mem_cons] at hq
 rcases hq with rfl | hq
 ·exact List.mem_flatMap.2 ⟨k, O, z5w k⟩
 ·obtain ⟨z, hz, hpk⟩ := List.mem_flatMap.1 hq
  exact List.mem_flatMap.2 ⟨z, hz, List.mem_map.2 ⟨k, z12 z q hpk k (z0k O (z05 k)), rfl⟩⟩
theorem znh {t x : T} (hn : (idsT t).Nodup) (hx : x ∈ nodesT t) : (idsT x).Nodup := by
 obtain ⟨C, h1, _⟩ := focus x.id t (List.mem_map.2 ⟨x, hx, rfl⟩)
 rw [z0x hn hx rfl] at h1
 rw [h1] at hn
 exact zmt hn
theorem z38 {t x : T} (hn : (idsT t).Nodup) (hx : x ∈ nodesT t) : (x.kids.map T.id).Nodup := by
 have h := znh hn hx
 rw [z35, List.nodup_cons] at h
 have h2 := List.pairwise_flatMap.1 h.2
 unfold List.Nodup
 rw [List.pairwise_map]
 exact h2.2.imp fun {a b} h e => h _ (z5w a) _ (z5w b) e
theorem zx9 {t q : T} (hn : (idsT t).Nodup) (hq : q ∈ nodesT t) (i : Nat) (hi : i < q.kids.length) : zed q.kids[i].id t = (q.id, (i : Int), true) := by
 have O : q.kids[i] ∈ q.kids := List.getElem_mem hi
 have hkn : q.kids[i] ∈ nodesT t := z12 t q hq _ (z0k O (z05 _))
 obtain ⟨x, q', j, hj, h1, h2, h3, h4, h5, _, _, _, hq'⟩ := zd8 hn (id := q.kids[i].id) (List.mem_map.2 ⟨_, hkn, rfl⟩) (z81 hn hq O)
 have e1 := z57 t hn q hq _ O
 rw [h3] at e1
 simp only at e1
 have e2 := z0x hn hq e1.symm
 rw [h4] at e2
 simp only [Prod.mk.injEq, and_true] at e2
 subst e2
 rw [z0x hn hkn rfl] at h1
 simp only [Prod.mk.injEq, and_true] at h1
 rw [<- h1] at h5
 have : j = i := (List.getElem_inj (h₀ := by simpa using hj) (h₁ := by simpa using hi) (z38 hn hq)).1 (by simp [h5])
 rw [h3, this]
theorem zgf {t : T} (hn : (idsT t).Nodup) {id : Idv} (hm : id ∈ idsT t) (h0 : ¬ t.id = id) : ∃ q ∈ nodesT t, ∃ k ∈ q.kids, k.id = id /\ (zed id t).1 = q.id := by
 obtain ⟨x, q, i, hi, h1, h2, h3, h4, h5, _, _, _, hq⟩ := zd8 hn hm h0
 exact ⟨q, hq, x, by rw [<- h5]; exact List.getElem_mem hi, h2, by rw [h3]⟩
def z4h (A : T) (u k : T) : Bool := z23 u.id A && ((zed k.id A).2.2 && decide ((zed k.id A).1 = u.id))
def z4k (A : T) (u : T) : List T := u.kids.filter (z4h A u)
def zao (A : T) (u : T) : List Int := (z4k A u).map fun k => (zed k.id A).2.1
def z2j (A : T) (u : T) : List Idv := (Lis.lis (zao A u)).map fun n => ((z4k A u).map T.id).getD n Idv.zero
def edT (t : T) : List (T × T) := ze9 (fun t l => (t.kids.zip l).flatMap fun p => (t, p.1) :: p.2) t
theorem zlk (t : T) : edT t = t.kids.flatMap fun k => (t, k) :: edT k := by
 unfold edT
 rw [z37]
 generalize ze9 (fun (t : T) (l : List (List (T × T))) => (t.kids.zip l).flatMap fun p => (t, p.1) :: p.2) = f
 induction t.kids with
 | nil => rfl
 | cons k l ih => simp only [List.map_cons, List.zip_cons_cons, List.flatMap_cons, ih]
def zos (A B : T) : List Idv := ((edT B).filter fun e => z23 e.2.id A && !decide (e.2.id ∈ z2j A e.1)).map fun e => e.2.id
def mvB (A B : T) (i : Idv) : Bool := decide (i ∈ zos A B)
theorem zw5 : ∀ (t : T) (e : T × T), e ∈ edT t ↔ e.1 ∈ nodesT t /\ e.2 ∈ e.1.kids := by
 refine z6x fun t ih e => ?_
 rw [zlk, List.mem_flatMap, z17, List.mem_cons, List.mem_flatMap]
 constructor
 ·rintro ⟨k, O, he⟩
  rcases List.mem_cons.1 he with rfl | he
  ·exact ⟨.inl rfl, O⟩
  ·obtain ⟨h1, h2⟩ := (ih k O e).1 he
   exact ⟨.inr ⟨k, O, h1⟩, h2⟩
 ·rintro ⟨h1 | ⟨k, O, h1⟩, h2⟩
  ·exact ⟨e.2, h1 ▸ h2, by rw [<- h1]; simp⟩
  ·exact ⟨k, O, List.mem_cons_of_mem _ ((ih k O e).2 ⟨h1, h2⟩)⟩
theorem zw6 : ∀ t : T, idsT t = t.id :: (edT t).map fun e => e.2.id := by
 refine z6x fun t ih => ?_
 rw [z35, zlk, List.map_flatMap]
 congr 1
 rw [List.flatMap_def, List.flatMap_def]
 refine congrArg _ (List.map_congr_left fun k O => ?_)
 rw [ih k O, List.map_cons]
theorem zq0 {t q q' k k' : T} (hn : (idsT t).Nodup) (hq : q ∈ nodesT t) (O : k ∈ q.kids) (hq' : q' ∈ nodesT t) (hk' : k' ∈ q'.kids) (h : k.id = k'.id) : q = q' /\ k = k' := by
 have e1 := z57 t hn q hq k O
 have e2 := z57 t hn q' hq' k' hk'
 rw [h, e2] at e1
 have f1 := z0x hn hq rfl
 have f2 := z0x hn hq' e1
 rw [f1] at f2
 simp only [Prod.mk.injEq, and_true] at f2
 have g1 := z0x hn (z12 t q hq k (z0k O (z05 k))) h
 have g2 := z0x hn (z12 t q' hq' k' (z0k hk' (z05 k'))) rfl
 rw [g1] at g2
 simp only [Prod.mk.injEq, and_true] at g2
 exact ⟨f2, g2⟩
section
variable {A B : T}
theorem z7g {u : T} {i : Idv} (h : i ∈ z2j A u) : ∃ k ∈ u.kids, k.id = i /\ z4h A u k = true := by
 obtain ⟨n, hn, rfl⟩ := List.mem_map.1 h
 have hlt := (Lis.lis_rise (zao A u)).2 n hn
 have hl : n < (z4k A u).length := by simpa [zao] using hlt
 obtain ⟨h1, h2⟩ := List.mem_filter.1 (List.getElem_mem hl)
 exact ⟨_, h1, by simp [List.getD, hl], h2⟩
theorem zgg (u : T) : (z2j A u).Sublist (u.kids.map T.id) := by
 have h := zge Idv.zero ((z4k A u).map T.id) (Lis.lis (zao A u)) 0 ((Lis.lis_rise _).1.imp fun h => h.1) (fun i hi => ⟨Nat.zero_le _, by have := (Lis.lis_rise (zao A u)).2 i hi; simpa [zao] using this⟩)
 rw [List.drop_zero] at h
 refine h.trans ?_
 exact (List.filter_sublist).map _
theorem zi9 (hn : (idsT A).Nodup) {x u : T} (hx : x ∈ nodesT A) (hid : x.id = u.id) : (z2j A u).Sublist (x.kids.map T.id) := by
 have key : ∀ n, n < (z4k A u).length -> ∃ i : Nat, (zao A u).getD n 0 = i /\ i < x.kids.length /\ (x.kids.map T.id).getD i Idv.zero = ((z4k A u).map T.id).getD n Idv.zero := by
  intro n hl
  obtain ⟨h1, h2⟩ := List.mem_filter.1 (List.getElem_mem hl)
  simp only [z4h, Bool.and_eq_true, decide_eq_true_eq] at h2
  obtain ⟨_, h3, h4⟩ := h2
  have hm : (z4k A u)[n].id ∈ idsT A := by
   by_cases h : (z4k A u)[n].id ∈ idsT A
   ·exact h
   ·rw [<- z6q] at h
    unfold zed at h3
    simp [h] at h3
  have h0 : ¬ A.id = (z4k A u)[n].id := by
   intro e
   have h5 := z2q e
   unfold zed at h3
   simp [h5] at h3
  obtain ⟨z, q, i, hi, g1, g2, g3, g4, g5, _, _, _, hq⟩ := zd8 hn hm h0
  have : q = x := by
   have e2 : q.id = x.id := by rw [hid, <- h4, g3]
   have f1 := z0x hn hq rfl
   rw [e2, z0x hn hx rfl] at f1
   simp only [Prod.mk.injEq, and_true] at f1
   exact f1.symm
  subst this
  refine ⟨i, ?_, hi, ?_⟩
  ·simp [List.getD, zao, hl, g3]
  ·simp [List.getD, hi, hl, g5, g2]
 have hr := Lis.lis_rise (zao A u)
 have hlt : ∀ n ∈ Lis.lis (zao A u), n < (z4k A u).length := fun n h => by have := hr.2 n h; simpa [zao] using this
 have e : z2j A u = ((Lis.lis (zao A u)).map fun n => ((zao A u).getD n 0).toNat).map fun i => (x.kids.map T.id).getD i Idv.zero := by
  unfold z2j
  rw [List.map_map]
  refine List.map_congr_left fun n hn => ?_
  obtain ⟨i, h1, h2, h3⟩ := key n (hlt n hn)
  simp only [Function.comp_apply, h1, Int.toNat_natCast, h3]
 rw [e]
 have h := zge Idv.zero (x.kids.map T.id) ((Lis.lis (zao A u)).map fun n => ((zao A u).getD n 0).toNat) 0 (by
  rw [List.pairwise_map]
  refine List.Pairwise.imp_of_mem ?_ hr.1
  intro a b ha hb h
  obtain ⟨i, h1, _⟩ := key a (hlt a ha)
  obtain ⟨j, h2, _⟩ := key b (hlt b hb)
  rw [h1, h2] at h ⊢
  have := h.2
  simp only [Int.toNat_natCast]
  omega) (fun i hi => by
  obtain ⟨n, hn, rfl⟩ := List.mem_map.1 hi
  obtain ⟨j, h1, h2, _⟩ := key n (hlt n hn)
  rw [h1]
  exact ⟨Nat.zero_le _, by simpa using h2⟩)
 rwa [List.drop_zero] at h
theorem zey {i : Idv} : mvB A B i = true ↔ ∃ q ∈ nodesT B, ∃ k ∈ q.kids, k.id = i /\ i ∈ idsT A /\ i ∉ z2j A q := by
 unfold mvB zos
 rw [decide_eq_true_eq, List.mem_map]
 constructor
 ·rintro ⟨e, he, rfl⟩
  obtain ⟨h1, h2⟩ := List.mem_filter.1 he
  obtain ⟨h3, h4⟩ := (zw5 B e).1 h1
  simp only [Bool.and_eq_true, Bool.not_eq_true', decide_eq_false_iff_not, z1q, decide_eq_true_eq] at h2
  exact ⟨e.1, h3, e.2, h4, rfl, h2.1, h2.2⟩
 ·rintro ⟨q, hq, k, O, rfl, h1, h2⟩
  refine ⟨(q, k), List.mem_filter.2 ⟨(zw5 B _).2 ⟨hq, O⟩, ?_⟩, rfl⟩
  simp [z1q, h1, h2]
theorem zu3 (na : (idsT A).Nodup) (nb : (idsT B).Nodup) (hr : A.id = B.id)
  (O : ∀ i x y, findR i A = (x, true) -> findR i B = (y, true) -> x.kind = y.kind)
  (hl : ∀ i x y, findR i A = (x, true) -> findR i B = (y, true) -> ¬ x.label = y.label -> ¬ x.label = ByteArray.empty) : Books A B (mvB A B) where
 na := na
 nb := nb
 root := hr
 rootM := by
  cases h : mvB A B B.id with
  | false => rfl
  | true =>
   obtain ⟨q, hq, k, O, e, _⟩ := zey.1 h
   exact absurd e.symm (z81 nb hq O)
 kept := fun i h => by
  obtain ⟨q, hq, k, O, rfl, h1, _⟩ := zey.1 h
  exact ⟨h1, List.mem_map.2 ⟨k, z12 B q hq k (z0k O (z05 k)), rfl⟩⟩
 kind := O
 lab := hl
 line := fun i x y hx hy => by
  have hxi : x.id = i := by have := zag (id := i) (t := A) (by rw [hx]); rwa [hx] at this
  have hyi : y.id = i := by have := zag (id := i) (t := B) (by rw [hy]); rwa [hy] at this
  have hxn : x ∈ nodesT A := by have := z2i (id := i) (u := A) (by rw [hx]); rwa [hx] at this
  have hyn : y ∈ nodesT B := by have := z2i (id := i) (u := B) (by rw [hy]); rwa [hy] at this
  have s1 := zex (zgg (A := A) y) (z38 nb hyn)
  have s2 := zex (zi9 na hxn (hxi.trans hyi.symm)) (z38 na hxn)
  -- who stays under y
  have hstay : ∀ k : Idv, stayB A B (mvB A B) k = true -> ∀ q ∈ nodesT B, (∃ z ∈ q.kids, z.id = k) -> k ∈ z2j A q := by
   intro k hs q hq ⟨z, hz, hzk⟩
   simp only [stayB, z1q, Bool.and_eq_true, decide_eq_true_eq, Bool.not_eq_true'] at hs
   obtain ⟨h1, h2, h3⟩ := hs
   by_cases hm : k ∈ z2j A q
   ·exact hm
   ·have := zey.2 ⟨q, hq, z, hz, hzk, h1, hm⟩
    rw [h3] at this; cases this
  have hmem : ∀ k, k ∈ z2j A y -> stayB A B (mvB A B) k = true := by
   intro k hks
   obtain ⟨z, hz, hzk, hu⟩ := z7g hks
   have hkA : k ∈ idsT A := (zi9 na hxn (hxi.trans hyi.symm)).subset hks |> fun h => by
    obtain ⟨w, hw, rfl⟩ := List.mem_map.1 h
    exact List.mem_map.2 ⟨w, z12 A x hxn w (z0k hw (z05 w)), rfl⟩
   have hkB : k ∈ idsT B := List.mem_map.2 ⟨z, z12 B y hyn z (z0k hz (z05 z)), hzk⟩
   have hnm : mvB A B k = false := by
    cases h : mvB A B k with
    | false => rfl
    | true =>
     obtain ⟨q, hq, z', hz', e, _, hns⟩ := zey.1 h
     obtain ⟨e2, _⟩ := zq0 nb hq hz' hyn hz (e.trans hzk.symm)
     subst e2
     exact absurd hks hns
   simp [stayB, z1q, hkA, hkB, hnm]
  have g1 : (y.kids.filter fun k => stayB A B (mvB A B) k.id).map T.id = z2j A y := by
   rw [<- s1, List.filter_map]
   refine congrArg _ (List.filter_congr fun k O => ?_)
   rw [Bool.eq_iff_iff]
   constructor
   ·intro h; simp only [Function.comp_apply, decide_eq_true_eq]; exact hstay _ h y hyn ⟨k, O, rfl⟩
   ·intro h; simp only [Function.comp_apply, decide_eq_true_eq] at h; exact hmem _ h
  have g2 : (x.kids.filter fun k => stayB A B (mvB A B) k.id).map T.id = z2j A y := by
   rw [<- s2, List.filter_map]
   refine congrArg _ (List.filter_congr fun k O => ?_)
   rw [Bool.eq_iff_iff]
   constructor
   ·intro h
    simp only [Function.comp_apply, decide_eq_true_eq]
    have h' := h
    simp only [stayB, z1q, Bool.and_eq_true, decide_eq_true_eq, Bool.not_eq_true'] at h'
    obtain ⟨h1, h2, h3⟩ := h'
    have h0 : ¬ B.id = k.id := by rw [<- hr]; exact z81 na hxn O
    obtain ⟨q, hq, z, hz, hzk, _⟩ := zgf nb h2 h0
    have hs := hstay _ h q hq ⟨z, hz, hzk⟩
    obtain ⟨z', hz', hzk', hu⟩ := z7g hs
    simp only [z4h, Bool.and_eq_true, decide_eq_true_eq] at hu
    have e1 := z57 A na x hxn k O
    rw [<- hzk', hu.2.2] at e1
    have : q = y := by
     have f1 := z0x nb hq rfl
     rw [e1, hxi, hy] at f1
     simp only [Prod.mk.injEq, and_true] at f1
     exact f1.symm
    subst this
    exact hs
   ·intro h; simp only [Function.comp_apply, decide_eq_true_eq] at h; exact hmem _ h
  rw [g1, g2]
 offA := fun x hx hxB k O hkB => by
  have h0 : ¬ B.id = k.id := by rw [<- hr]; exact z81 na hx O
  obtain ⟨q, hq, z, hz, hzk, _⟩ := zgf nb hkB h0
  have hkA : k.id ∈ idsT A := List.mem_map.2 ⟨k, z12 A x hx k (z0k O (z05 k)), rfl⟩
  refine zey.2 ⟨q, hq, z, hz, hzk, hkA, fun hs => ?_⟩
  obtain ⟨z', hz', hzk', hu⟩ := z7g hs
  simp only [z4h, Bool.and_eq_true, decide_eq_true_eq] at hu
  have e1 := z57 A na x hx k O
  rw [<- hzk', hu.2.2] at e1
  exact hxB (e1 ▸ List.mem_map.2 ⟨q, hq, rfl⟩)
 offB := fun y hy hyA k O hkA => by
  refine zey.2 ⟨y, hy, k, O, rfl, hkA, fun hs => ?_⟩
  obtain ⟨z', hz', hzk', hu⟩ := z7g hs
  simp only [z4h, Bool.and_eq_true, z1q, decide_eq_true_eq] at hu
  exact hyA hu.1
end
end Tr
end
section
open Abs
namespace Tr
section
variable {A B : T} {mv : Idv -> Bool}
theorem zoh (na : (idsT A).Nodup) (nb : (idsT B).Nodup) : ((idsT B).filter fun i => z23 i A).Perm ((idsT A).filter fun i => z23 i B) := by
 rw [List.perm_ext_iff_of_nodup (nb.filter _) (na.filter _)]
 intro i
 simp only [List.mem_filter, z1q, decide_eq_true_eq]
 exact And.comm
theorem zjk {i : Idv} {t : T} (h : z23 i t = false) : findR i t = (T.zero, false) := by
 unfold z23 at h
 exact zgl (zik.1 h)
theorem zfr (na : (idsT A).Nodup) (nb : (idsT B).Nodup) (g : Idv -> Nat) : ((nodesT B).map fun y => if z23 y.id A = true then g y.id else 0).sum = ((nodesT A).map fun x => if z23 x.id B = true then g x.id else 0).sum := by
 have h1 : ((nodesT B).map fun y => if z23 y.id A = true then g y.id else 0) = (idsT B).map fun i => if z23 i A = true then g i else 0 := by unfold idsT; rw [List.map_map]; rfl
 have h2 : ((nodesT A).map fun x => if z23 x.id B = true then g x.id else 0) = (idsT A).map fun i => if z23 i B = true then g i else 0 := by unfold idsT; rw [List.map_map]; rfl
 rw [h1, h2, <- z66, <- z66]
 exact zlf ((zoh na nb).map g)
theorem zmj (na : (idsT A).Nodup) (nb : (idsT B).Nodup) (g : T -> Nat) (h0 : g T.zero = 0) : ((nodesT B).map fun y => g (findR y.id A).1).sum = ((nodesT A).map fun x => if z23 x.id B = true then g x else 0).sum := by
 have h1 : ((nodesT B).map fun y => g (findR y.id A).1).sum = ((nodesT B).map fun y => if z23 y.id A = true then g (findR y.id A).1 else 0).sum := z20 fun y _ => by
  by_cases h : z23 y.id A = true
  ·rw [if_pos h]
  ·rw [if_neg h, zjk (by simpa using h), h0]
 rw [h1, zfr na nb (fun i => g (findR i A).1)]
 exact z20 fun x hx => by rw [z0x na hx rfl]
theorem zmk (hb : Books A B mv) {w : TT -> Nat} (hw : zi2 w) : wtT w (z4g A B mv B) = ((nodesT B).map fun y => w (z75 A mv y [])).sum + ((nodesT A).map (goD w B mv)).sum := by
 rw [zpm hw, z7e]
 congr 1
 rw [zmj hb.na hb.nb (goK w B (stayB A B mv)) rfl]
 have h := ztv hw (A := A) (B := B) (mv := mv) A (fun x hx k O => by
  rw [z1q, decide_eq_true (id_in (z12 A x hx k (z0k O (z05 k))))]) (fun x hx hxB k O hkB => by
  rw [z1q, decide_eq_false_iff_not] at hxB
  rw [z1q, decide_eq_true_eq] at hkB
  exact hb.offA x hx hxB k O hkB)
 rw [if_pos (by rw [z1q, decide_eq_true_eq, hb.root, z35]; simp)] at h
 rw [<- h, Nat.add_zero]
def wS (s : Int) (t : TT) : Nat := z7w s t.head + z7w s t.words
theorem wS_no (s : Int) : zi2 (wS s) := fun _ _ _ _ _ _ _ _ _ => rfl
def zjl (x : T) : Nat := x.head.length + x.words.length
def prN (v u : T) : Nat := (Lcs.pairs (txt v.head) (txt u.head)).length + (Lcs.pairs (txt v.words) (txt u.words)).length
def z3k (t : T) : Nat := ((nodesT t).map zjl).sum
theorem zml (y : T) : wS 1 (z75 A mv y []) + prN (findR y.id A).1 y = zjl y /\ wS 2 (z75 A mv y []) + prN (findR y.id A).1 y = zjl (findR y.id A).1 := by
 have h1 := zjp (txt (findR y.id A).1.head) (txt y.head)
 have h2 := zjp (txt (findR y.id A).1.words) (txt y.words)
 unfold wS prN zjl z75
 simp only [TT.head, TT.words]
 simp only [txt, List.length_map] at h1 h2 ⊢
 omega
theorem zst (x : T) : wS 1 (zee x []) = 0 /\ wS 2 (zee x []) = zjl x := by
 unfold wS zee zjl
 simp only [TT.head, TT.words]
 rw [z4u (by decide), z4u (by decide), z6i, z6i]
 simp [txt]
theorem wS_ph (s : Int) (i : Idv) : wS s (phT i) = 0 := rfl
theorem zcj {α : Type} : ∀ l : List α, (l.map fun _ => 0).sum = 0
 | [] => rfl
 | _ :: l => by simp [zcj l]
def zel (A B : T) : Nat := ((nodesT B).map fun y => prN (findR y.id A).1 y).sum
theorem zsu (hb : Books A B mv) : wtT (wS 1) (z4g A B mv B) + zel A B = z3k B /\ wtT (wS 2) (z4g A B mv B) + zel A B = z3k A := by
 rw [zmk hb (wS_no 1), zmk hb (wS_no 2)]
 have g1 : ((nodesT A).map (goD (wS 1) B mv)).sum = 0 := by
  refine (z20 (g := fun _ => 0) fun x _ => ?_).trans (zcj _)
  unfold goD
  rw [(zst x).1]
  have : (x.kids.map fun k => if z23 k.id B = true /\ mv k.id = true then wS 1 (phT k.id) else 0).sum = 0 := by
   refine (z20 (g := fun _ => 0) fun k _ => ?_).trans (zcj _)
   simp [wS_ph]
  rw [this]; simp
 have g2 : ((nodesT A).map (goD (wS 2) B mv)).sum = ((nodesT A).map fun x => if z23 x.id B = true then 0 else zjl x).sum := by
  refine z20 fun x _ => ?_
  unfold goD
  rw [(zst x).2]
  have : (x.kids.map fun k => if z23 k.id B = true /\ mv k.id = true then wS 2 (phT k.id) else 0).sum = 0 := by
   refine (z20 (g := fun _ => 0) fun k _ => ?_).trans (zcj _)
   simp [wS_ph]
  rw [this]; simp
 have f1 : ((nodesT B).map fun y => wS 1 (z75 A mv y [])).sum + zel A B = z3k B := by
  unfold zel z3k
  rw [<- z7e]
  exact z20 fun y _ => (zml y).1
 have f2 : ((nodesT B).map fun y => wS 2 (z75 A mv y [])).sum + zel A B = ((nodesT A).map fun x => if z23 x.id B = true then zjl x else 0).sum := by
  rw [<- zmj hb.na hb.nb zjl rfl]
  unfold zel
  rw [<- z7e]
  exact z20 fun y _ => (zml y).2
 have f3 : ((nodesT A).map fun x => if z23 x.id B = true then zjl x else 0).sum + ((nodesT A).map fun x => if z23 x.id B = true then 0 else zjl x).sum = z3k A := by
  rw [<- z7e]
  refine z20 fun x _ => ?_
  split <;> simp
 omega
theorem zvp {v u : T} (h1 : v.head.length <= 256) (h2 : v.words.length <= 256) (h3 : u.head.length <= 256) (h4 : u.words.length <= 256) : prN v u = prN u v := by
 unfold prN
 have e : ∀ l : List Wd, (txt l).length = l.length := fun l => by simp [txt]
 rw [Lcs.pairs_length _ _ (by rw [e]; exact h1) (by rw [e]; exact h3), Lcs.pairs_length _ _ (by rw [e]; exact h2) (by rw [e]; exact h4), Lcs.pairs_length _ _ (by rw [e]; exact h3) (by rw [e]; exact h1), Lcs.pairs_length _ _ (by rw [e]; exact h4) (by rw [e]; exact h2), Lcs.len_comm (txt v.head), Lcs.len_comm (txt v.words)]
theorem zvq (u : T) : prN T.zero u = 0 := by
 have h1 := Lcs.pairs_le (txt T.zero.head) (txt u.head)
 have h2 := Lcs.pairs_le (txt T.zero.words) (txt u.words)
 have e1 : (txt T.zero.head).length = 0 := rfl
 have e2 : (txt T.zero.words).length = 0 := rfl
 unfold prN; omega
theorem zoi (na : (idsT A).Nodup) (nb : (idsT B).Nodup) (ha : ∀ x ∈ nodesT A, x.head.length <= 256 /\ x.words.length <= 256) (hb : ∀ x ∈ nodesT B, x.head.length <= 256 /\ x.words.length <= 256) : zel A B = zel B A := by
 have key : ∀ A B : T, (idsT A).Nodup -> (idsT B).Nodup -> zel A B = ((nodesT B).map fun y => if z23 y.id A = true then prN (findR y.id A).1 (findR y.id B).1 else 0).sum := by
  intro A B na nb
  unfold zel
  refine z20 fun y hy => ?_
  rw [z0x nb hy rfl]
  by_cases h : z23 y.id A = true
  ·rw [if_pos h]
  ·rw [if_neg h, zjk (by simpa using h), zvq]
 rw [key A B na nb, key B A nb na, zfr na nb (fun i => prN (findR i A).1 (findR i B).1)]
 refine z20 fun x hx => ?_
 by_cases h : z23 x.id B = true
 ·rw [if_pos h, if_pos h]
  have h1 := ha _ (z2i (id := x.id) (u := A) (by rw [z0x na hx rfl]))
  have h2 := hb _ (z2i (id := x.id) (u := B) h)
  exact zvp h1.1 h1.2 h2.1 h2.2
 ·rw [if_neg h, if_neg h]
end
end Tr
end
section
def Lis.Good (l o : List Int) (k : Nat) : Prop := ∀ j, j < k -> 0 <= o.getD j 0 /\ o.getD j 0 < l.length /\ (0 < j -> o.getD (j - 1) 0 < o.getD j 0 /\ l.getD (o.getD (j - 1) 0).toNat 0 < l.getD (o.getD j 0).toNat 0)
theorem z7x (l : List Int) (i : Nat) (h : i < l.length) : l.getD i 0 = l[i] := by
 rw [List.getD_eq_getElem?_getD, List.getElem?_eq_getElem h]; rfl
theorem Lis.row_ge (l : List Int) (i : Nat) (h : i < l.length) : 1 <= (Lis.rows l).getD i 0 /\ (Lis.rows l).getD i 0 <= Lis.most l := by
 have hl := Lis.rows_length l
 rw [z7x _ i (by omega)]
 exact ⟨Lis.rows_pos l _ (List.getElem_mem _), Lis.foldr_ge _ _ (List.getElem_mem _)⟩
theorem Lis.good_row (l o : List Int) (h : Lis.Good l o o.length) : ∀ d j, j + d + 1 = o.length -> ((d + 1 : Nat) : Int) <= (Lis.rows l).getD (o.getD j 0).toNat 0
 | 0, j, hj => by
  have h1 := h j (by omega)
  have := (Lis.row_ge l (o.getD j 0).toNat (by omega)).1
  omega
 | d + 1, j, hj => by
  have ih := Lis.good_row l o h d (j + 1) (by omega)
  have h1 := h j (by omega)
  have h2 := h (j + 1) (by omega)
  have h3 := h2.2.2 (by omega)
  simp only [Nat.add_sub_cancel] at h3
  have h4 := Lis.rows_step l (o.getD j 0).toNat (o.getD (j + 1) 0).toNat (by omega) (by omega) (by
   have q := h3.2
   rw [z7x l _ (by omega), z7x l _ (by omega)] at q
   exact q)
  omega
theorem Lis.good_most (l o : List Int) (h : Lis.Good l o o.length) : (o.length : Int) <= Lis.most l := by
 cases ho : o.length with
 | zero => have := (Lis.most_bd l).1; simpa using this
 | succ n =>
  have h1 := Lis.good_row l o h n 0 (by omega)
  have h2 := h 0 (by omega)
  have h3 := (Lis.row_ge l (o.getD 0 0).toNat (by omega)).2
  omega
theorem Lis.sel_inv (l : List Int) : ∀ n, n <= l.length -> ((Lis.sel l n).length : Int) = Lis.most l \/
  (((Lis.sel l n).length : Int) < Lis.most l /\ ∃ j, n <= j /\ j < l.length /\ (Lis.rows l).getD j 0 = Lis.most l - (Lis.sel l n).length /\ (Lis.sel l n = [] \/ l.getD ((Lis.sel l n).getLastD 0) 0 < l.getD j 0))
 | 0, _ => by
  have hb := Lis.most_bd l
  rcases Lis.foldr_reach (Lis.rows l) with h | h
  ·left; show (0 : Int) = _; unfold Lis.most; exact h.symm
  ·have hp := Lis.rows_pos l _ h
   right
   refine ⟨by show (0 : Int) < _; unfold Lis.most; omega, ?_⟩
   obtain ⟨j, hj, he⟩ := List.getElem_of_mem h
   have hl := Lis.rows_length l
   refine ⟨j, Nat.zero_le _, by omega, ?_, .inl rfl⟩
   rw [z7x _ j hj, he]
   show _ = Lis.most l - (0 : Int)
   unfold Lis.most; omega
 | n + 1, hn => by
  have ih := Lis.sel_inv l n (by omega)
  have hs := Lis.sel_succ l n
  rcases ih with ih | ⟨hlt, j, hj1, hj2, hj3, hj4⟩
  ·left
   rw [hs]; unfold Lis.sel1; rw [if_neg (by omega)]; exact ih
  ·by_cases hc : ((Lis.sel l n).length : Int) < Lis.most l /\ (Lis.rows l).getD n 0 = Lis.most l - (Lis.sel l n).length /\ (Lis.sel l n = [] \/ l.getD ((Lis.sel l n).getLastD 0) 0 < l.getD n 0)
   ·have hs' : Lis.sel l (n + 1) = Lis.sel l n ++ [n] := by rw [hs]; unfold Lis.sel1; rw [if_pos hc]
    rw [hs']
    have hlen : ((Lis.sel l n ++ [n]).length : Int) = (Lis.sel l n).length + 1 := by simp
    have hlast : (Lis.sel l n ++ [n]).getLastD 0 = n := by simp
    rw [hlen, hlast]
    by_cases he : ((Lis.sel l n).length : Int) + 1 = Lis.most l
    ·exact .inl he
    ·right
     refine ⟨by omega, ?_⟩
     obtain ⟨j', q1, q2, q3, q4⟩ := Lis.rows_next l n (by omega) (by omega)
     refine ⟨j', by omega, q2, by omega, .inr ?_⟩
     rw [z7x l n (by omega), z7x l j' q2]; exact q3
   ·have hs' : Lis.sel l (n + 1) = Lis.sel l n := by rw [hs]; unfold Lis.sel1; rw [if_neg hc]
    rw [hs']
    right
    refine ⟨hlt, j, ?_, hj2, hj3, hj4⟩
    rcases Nat.lt_or_ge n j with h | h
    ·omega
    ·have : j = n := by omega
     subst this
     exact (hc ⟨hlt, hj3, hj4⟩).elim
theorem Lis.sel_all (l : List Int) : ((Lis.sel l l.length).length : Int) = Lis.most l := by
 rcases Lis.sel_inv l l.length (Nat.le_refl _) with h | ⟨_, j, h1, h2, _⟩
 ·exact h
 ·omega
theorem Lis.longest (l o : List Int) (hl : l.length <= 256) (h : Lis.Good l o o.length) : o.length <= (Lis.lis l).length := by
 have h1 := Lis.good_most l o h
 have h2 := Lis.sel_all l
 unfold Lis.lis
 rw [if_neg (by omega)]
 omega
end
section
open Abs
namespace Tr
end Tr
namespace Tr
def z3r (u : T) : Bool := decide (u.kind = 0) && (z8q u && (decide (u.kids.length = 0) || !decide ((u.kids.headD u).id = u.id)))
def z4f (A B : T) : Bool := (nodesT A).all fun x => !z23 x.id B || decide ((findR x.id B).1.kind = x.kind)
def z9g (A B : T) : Bool := z3r A && (z3r B && z4f A B)
theorem z1g (u : T) : z3r u = true ↔ u.kind = 0 /\ z8q u = true /\ (idsT u).Nodup := by
 unfold z3r
 simp only [Bool.and_eq_true, decide_eq_true_eq, Bool.or_eq_true, Bool.not_eq_true', decide_eq_false_iff_not]
 constructor
 ·rintro ⟨h1, h2, h3⟩
  refine ⟨h1, h2, ?_⟩
  have h4 : zwi u = true := by unfold z8q at h2; simp only [Bool.and_eq_true] at h2; exact h2.2.2.2
  unfold zwi at h4
  simp only [Bool.or_eq_true, Bool.and_eq_true, decide_eq_true_eq, List.all_eq_true] at h4
  rcases h4 with h4 | h4
  ·cases O : u.kids with
   | nil => rw [z35, O]; simp
   | cons k l =>
    rcases h3 with h3 | h3
    ·rw [O] at h3; simp at h3
    ·rw [O] at h3
     refine absurd ?_ h3
     simp only [List.headD_cons]
     rw [h4 u.id (z5w u), h4 k.id (by rw [z35, O]; simp [z5w])]
  ·exact h4.2
 ·rintro ⟨h1, h2, h3⟩
  refine ⟨h1, h2, ?_⟩
  cases O : u.kids with
  | nil => exact .inl rfl
  | cons k l =>
   refine .inr fun e => ?_
   simp only [List.headD_cons] at e
   rw [z35, O, List.nodup_cons] at h3
   exact h3.1 (by rw [<- e]; simp [z5w])
theorem z7y {u : T} (h : z3r u = true) : u.id = Idv.zero := by
 obtain ⟨h1, h2, h3⟩ := (z1g u).1 h
 have h4 : zwi u = true := by unfold z8q at h2; simp only [Bool.and_eq_true] at h2; exact h2.2.2.2
 unfold zwi at h4
 simp only [Bool.or_eq_true, Bool.and_eq_true, decide_eq_true_eq, List.all_eq_true] at h4
 rcases h4 with h4 | h4
 ·exact h4 u.id (z5w u)
 ·exact h4.1.2 h1
theorem zn5 : ∀ t : T, z9x t = true -> ∀ x ∈ nodesT t, z9x x = true := by
 refine z6x fun t ih h x hx => ?_
 rw [z17, List.mem_cons, List.mem_flatMap] at hx
 rcases hx with rfl | ⟨k, O, hx⟩
 ·exact h
 ·rw [zdf] at h
  simp only [Bool.and_eq_true, List.all_eq_true] at h
  exact ih k O (h.2.2.1 k O) x hx
theorem z65 {u : T} (h : z3r u = true) {x : T} (hx : x ∈ nodesT u) : x.kids.length <= 64 /\ (x.head.length <= 256 /\ x.words.length <= 256) /\ (x.kind = 0 -> x.label = ByteArray.empty) /\ (¬ x.kind = 0 -> z7h x.label = true) /\ ∀ k ∈ x.kids, ¬ k.kind = 0 := by
 obtain ⟨h1, h2, h3⟩ := (z1g u).1 h
 have hr : z9x u = true := by unfold z8q at h2; simp only [Bool.and_eq_true] at h2; exact h2.1
 have h4 := zn5 u hr x hx
 rw [zdf] at h4
 simp only [Bool.and_eq_true, List.all_eq_true] at h4
 obtain ⟨ha, hn, _⟩ := h4
 unfold zis zlu at ha
 simp only [Bool.and_eq_true, decide_eq_true_eq] at ha
 obtain ⟨_, a2, a3, a4, a5⟩ := ha
 refine ⟨a2, ⟨a3.1, a4.1⟩, fun e => ?_, fun e => ?_, fun k O e => ?_⟩
 ·rw [if_pos e] at a5
  simp only [Bool.and_eq_true, decide_eq_true_eq] at a5
  exact a5.1
 ·rw [if_neg e] at a5; exact a5
 ·have := hn k O
  rw [e] at this
  unfold z46 at this
  simp at this
  have h8 : ∀ n : Nat, n < 8 -> (0 : Int) ∉ belowL[n]?.getD [] := by decide
  exact h8 x.kind.toNat (by omega) this.2
theorem zts {s : ByteArray} (h : z7h s = true) : ¬ s = ByteArray.empty := by
 intro e
 subst e
 revert h
 decide
theorem zg4 {A B : T} (na : (idsT A).Nodup) : z4f A B = true ↔ ∀ i x y, findR i A = (x, true) -> findR i B = (y, true) -> x.kind = y.kind := by
 unfold z4f
 rw [List.all_eq_true]
 constructor
 ·intro h i x y hx hy
  have hxn : x ∈ nodesT A := by have := z2i (id := i) (u := A) (by rw [hx]); rwa [hx] at this
  have hxi : x.id = i := by have := zag (id := i) (t := A) (by rw [hx]); rwa [hx] at this
  have := h x hxn
  unfold z23 at this
  rw [hxi, hy] at this
  have h2 : y.kind = x.kind := by simpa using this
  exact h2.symm
 ·intro h x hx
  by_cases hB : z23 x.id B = true
  ·have := h x.id x (findR x.id B).1 (z0x na hx rfl) (Prod.ext rfl hB)
   simp [this]
  ·simp [hB]
theorem zaj (A B : T) : z9g A B = true ↔ z3r A = true /\ z3r B = true /\ z4f A B = true := by
 unfold z9g; simp only [Bool.and_eq_true]
theorem zg5 (A B : T) : z9g A B = z9g B A := by
 have key : ∀ A B : T, z9g A B = true -> z9g B A = true := by
  intro A B h
  obtain ⟨h1, h2, h3⟩ := (zaj A B).1 h
  refine (zaj B A).2 ⟨h2, h1, ?_⟩
  rw [zg4 ((z1g _).1 h2).2.2]
  rw [zg4 ((z1g _).1 h1).2.2] at h3
  exact fun i x y hx hy => (h3 i y x hy hx).symm
 rw [Bool.eq_iff_iff]
 exact ⟨key A B, key B A⟩
theorem zcz {A B : T} (h : z9g A B = true) : Books A B (mvB A B) := by
 obtain ⟨h1, h2, h3⟩ := (zaj A B).1 h
 obtain ⟨a1, a2, a3⟩ := (z1g A).1 h1
 obtain ⟨b1, b2, b3⟩ := (z1g B).1 h2
 have O := (zg4 a3).1 h3
 refine zu3 a3 b3 ((z7y h1).trans (z7y h2).symm) O fun i x y hx hy hl he => ?_
 have hxn : x ∈ nodesT A := by have := z2i (id := i) (u := A) (by rw [hx]); rwa [hx] at this
 have hyn : y ∈ nodesT B := by have := z2i (id := i) (u := B) (by rw [hy]); rwa [hy] at this
 obtain ⟨_, _, _, x4, _⟩ := z65 h1 hxn
 obtain ⟨_, _, y3, _, _⟩ := z65 h2 hyn
 by_cases hx0 : x.kind = 0
 ·refine hl ?_
  rw [he, y3 (by rw [<- O i x y hx hy]; exact hx0)]
 ·exact zts (x4 hx0) he
def z79 (A B : T) : TT := z4g A B (mvB A B) B
end Tr
end
open _root_.Go.Proofs.Tryd
section
open Abs Facts Tr
attribute [local irreducible] awp
set_option maxRecDepth 100000
namespace Tr
def zza (t : TT) : Bool := zic (fun t l => decide (t.label.size <= 1000000) && (decide (t.was.size <= 1000000) && (decide (t.head.length <= 2000000) && (decide (t.words.length <= 2000000) && (decide (t.kids.length <= 2000000) && l.all id))))) t
theorem zhg (t : TT) : zza t = true ↔ t.label.size <= 1000000 /\ t.was.size <= 1000000 /\ t.head.length <= 2000000 /\ t.words.length <= 2000000 /\ t.kids.length <= 2000000 /\ ∀ k ∈ t.kids, zza k = true := by
 unfold zza
 rw [zgi]
 simp only [Bool.and_eq_true, decide_eq_true_eq, List.all_map, List.all_eq_true, Function.comp_apply, id_eq]
end Tr
theorem zb5 (s : Int) (l : List Tw) : z7w s l <= l.length := List.countP_le_length
theorem zjj {s : Int} {l : List Tw} {k : Nat} (h : k < l.length) : z7w s (l.take (k + 1)) = z7w s (l.take k) + if l[k].state = s then 1 else 0 := by
 rw [List.take_succ_eq_append_getElem h, z72]
 congr 1
 by_cases hs : l[k].state = s <;> simp [z7w, hs]
theorem zmi {α : Type} {f : α -> Nat} {l : List α} {k : Nat} (h : k < l.length) : ((l.take (k + 1)).map f).sum = ((l.take k).map f).sum + f l[k] := by
 rw [List.take_succ_eq_append_getElem h, List.map_append, List.sum_append]; simp
theorem z70 {α : Type} {f : α -> Nat} {l : List α} {k : Nat} : ((l.take k).map f).sum <= (l.map f).sum := by
 conv => rhs; rw [<- List.take_append_drop k l, List.map_append, List.sum_append]
 omega
theorem zfq : ∀ t : TT, zza t = true -> wtT (wS 1) t <= 1000000000 -> wtT (wS 2) t <= 1000000000 -> PC prog 13 [z8i t] (.tup [.int .i64 (wtT (wS 1) t), .int .i64 (wtT (wS 2) t)]) := by
 refine zxa fun t ih hs b1 b2 => ?_
 obtain ⟨h0, h00, h1, h2, h3, h4⟩ := (zhg t).1 hs
 have e1 := zi1 (wS 1) t
 have e2 := zi1 (wS 2) t
 refine z3l 2 (by simp only [pureD.pureL, z2t, Bool.and_self]) rfl (z2o [] func13 rfl (by decide +kernel) rfl ?_)
 show awp _ _ (Code.seq _ _) _ _
 repeat' (first | refine nxt ?_ | ((refine z1k (N := 3) rfl fun K hK => ?_); (simp (disch := omega) only [go_sem, Nat.reduceBEq, ↓reduceIte, reduceCtorEq, Nat.reduceAdd, Nat.reduceLeDiff, z0w])) | (refine hK _ ?_; clear hK K))
 obtain ⟨S, hS0, hS1, hS2⟩ : ∃ S : Int -> Nat -> Nat, (∀ s, S s 0 = 0) /\ (∀ s, S s 1 = z7w s t.head) /\ ∀ s, S s 2 = z7w s t.head + z7w s t.words := ⟨fun s i => if i = 0 then 0 else if i = 1 then z7w s t.head else z7w s t.head + z7w s t.words, fun _ => rfl, fun _ => rfl, fun _ => rfl⟩
 have g3 := zb5 1 t.head
 have g4 := zb5 1 t.words
 have g5 := zb5 2 t.head
 have g6 := zb5 2 t.words
 (refine z8h (fun U st => ∃ (i : _), U = 2 - i /\ st.t 1 = .ptr 0 0 /\ st.t 4 = .int .i64 (S 1 i : Int) /\ st.t 5 = .int .i64 (S 2 i : Int) /\ st.t 18 = .rsl true 1 [z0w t.head, z0w t.words] /\ st.t 19 = .int .i64 2 /\ st.t 20 = .int .i64 i /\ st.H 0 = some (.box 33 (z0s t)) /\ (i <= 2) /\ (0 < st.nx)) ?_ ?_); rotate_left; (rintro U st ⟨i, rfl, q1, q4, q5, q18, q19, q20, qH0, qp0, qp1⟩); rotate_left
 ·(refine ⟨_, 0, rfl, ?_⟩); (simp (disch := omega) only [go_sem, Nat.reduceBEq, Nat.reduceLT, true_and, and_true, and_self, Int.natCast_zero, z0w, hS0])
  try rfl
 by_cases hi : i < 2
 ·obtain ⟨l, hl, hi1, hll, g1, g2⟩ : ∃ l : List Tw, zft [z0w t.head, z0w t.words] (i : Int) = some (z0w l) /\ (∀ s, S s (i + 1) = S s i + z7w s l) /\ l.length <= 2000000 /\ S 1 i <= 2000000 /\ S 2 i <= 2000000 := by
   rcases (show i = 0 \/ i = 1 by omega) with rfl | rfl
   ·exact ⟨t.head, rfl, fun s => by rw [hS0, hS1]; omega, h1, by rw [hS0]; omega, by rw [hS0]; omega⟩
   ·exact ⟨t.words, rfl, fun s => by rw [hS1, hS2], h2, by rw [hS1]; omega, by rw [hS1]; omega⟩
  have k1 := hi1 1
  have k2 := hi1 2
  unfold z0w at hl
  repeat' (first | ((refine zqh fun K hK => ?_); (simp (disch := omega) only [go_sem, Nat.reduceBEq, ↓reduceIte, reduceCtorEq, Nat.reduceAdd, q18, q19, q20, hl, z0w])) | (refine zqd _ rfl ?_ ?_ <;> intro hc <;> (((try simp only [z0e] at hc); (try omega)))) | refine nxt ?_ | (refine hK _ ?_; clear hK K))
  (refine z8h (fun U st => ∃ (k : _), U = l.length - k /\ st.t 1 = .ptr 0 0 /\ st.t 4 = .int .i64 ((S 1 i + z7w 1 (l.take k) : Nat) : Int) /\ st.t 5 = .int .i64 ((S 2 i + z7w 2 (l.take k) : Nat) : Int) /\ st.t 18 = .rsl true 1 [z0w t.head, z0w t.words] /\ st.t 19 = .int .i64 2 /\ st.t 20 = .int .i64 i /\ st.t 24 = z0w l /\ st.t 25 = .int .i64 l.length /\ st.t 26 = .int .i64 k /\ st.H 0 = some (.box 33 (z0s t)) /\ (k <= l.length) /\ (0 < st.nx)) ?_ ?_); rotate_left; (rintro U st ⟨k, rfl, r1, r4, r5, r18, r19, r20, r24, r25, r26, rH0, rp0, rp1⟩); rotate_left
  ·(refine ⟨_, 0, rfl, ?_⟩); (simp (disch := omega) only [go_sem, Nat.reduceBEq, q1, q4, q5, q18, q19, q20, qH0, true_and, Int.natCast_add, Int.natCast_zero, z0w])
   exact ⟨by simp [z7w], by simp [z7w], by omega⟩
  have c1 := zb5 1 (l.take k)
  have c2 := zb5 2 (l.take k)
  rw [List.length_take] at c1 c2
  by_cases O : k < l.length
  ·have t1 := zjj (s := 1) O
   have t2 := zjj (s := 2) O
   by_cases s1 : l[k].state = 1
   ·rw [if_pos s1] at t1
    rw [if_neg (by omega)] at t2
    repeat' (first | ((first | refine zqh fun K hK => ?_ | refine zqr fun K hK => ?_); (simp (disch := omega) only [go_sem, Nat.reduceBEq, ↓reduceIte, reduceCtorEq, Nat.reduceAdd, Nat.reduceLeDiff, r4, r24, r25, r26, z0w, s1])) | ((first | refine zqd _ rfl (fun hc => ?_) (fun hc => ?_) | refine zqm _ rfl (fun hc => ?_) (fun hc => ?_)) <;> (first | (cases hc; done) | ((try simp only [z0e] at hc); (try omega)))) | refine nxt ?_ | (refine hK _ ?_; clear hK K))
    (refine Exists.intro _ (And.intro ?_ ⟨k + 1, rfl, ?_⟩)); rotate_left; (simp (disch := omega) only [go_sem, Nat.reduceBEq, r1, r4, r5, r18, r19, r20, r24, r25, r26, rH0, true_and, and_true, Int.natCast_add, Int.natCast_one, t1, t2]); rotate_left
    ·omega
    ·exact ⟨by omega, by omega⟩
   ·by_cases s2 : l[k].state = 2
    ·rw [if_neg s1] at t1
     rw [if_pos s2] at t2
     repeat' (first | ((first | refine zqh fun K hK => ?_ | refine zqr fun K hK => ?_); (simp (disch := omega) only [go_sem, Nat.reduceBEq, ↓reduceIte, reduceCtorEq, Nat.reduceAdd, Nat.reduceLeDiff, Int.reduceEq, r5, r24, r25, r26, z0w, s2])) | ((first | refine zqd _ rfl (fun hc => ?_) (fun hc => ?_) | refine zqm _ rfl (fun hc => ?_) (fun hc => ?_)) <;> (first | (cases hc; done) | ((try simp only [z0e] at hc); (try omega)))) | refine nxt ?_ | (refine hK _ ?_; clear hK K))
     (refine Exists.intro _ (And.intro ?_ ⟨k + 1, rfl, ?_⟩)); rotate_left; (simp (disch := omega) only [go_sem, Nat.reduceBEq, r1, r4, r5, r18, r19, r20, r24, r25, r26, rH0, true_and, and_true, Int.natCast_add, Int.natCast_one, t1, t2]); rotate_left
     ·omega
     ·exact ⟨by omega, by omega⟩
    ·rw [if_neg s1] at t1
     rw [if_neg s2] at t2
     repeat' (first | ((first | refine zqh fun K hK => ?_ | refine zqr fun K hK => ?_); (simp (disch := omega) only [go_sem, Nat.reduceBEq, ↓reduceIte, reduceCtorEq, Nat.reduceAdd, Nat.reduceLeDiff, r24, r25, r26, z0w, s1, s2])) | ((first | refine zqd _ rfl (fun hc => ?_) (fun hc => ?_) | refine zqm _ rfl (fun hc => ?_) (fun hc => ?_)) <;> (first | (cases hc; done) | ((try simp only [z0e] at hc); (try omega)))) | refine nxt ?_ | (refine hK _ ?_; clear hK K))
     (refine Exists.intro _ (And.intro ?_ ⟨k + 1, rfl, ?_⟩)); rotate_left; (simp (disch := omega) only [go_sem, Nat.reduceBEq, r1, r4, r5, r18, r19, r20, r24, r25, r26, rH0, true_and, and_true, Int.natCast_add, Int.natCast_one, t1, t2]); rotate_left
     ·omega
     ·omega
  ·have hta : l.take k = l := List.take_of_length_le (by omega)
   rw [hta] at r4 r5 c1 c2
   repeat' (first | ((first | refine zqh fun K hK => ?_ | refine zqr fun K hK => ?_); (simp (disch := omega) only [go_sem, Nat.reduceBEq, ↓reduceIte, r20, r25, r26])) | (refine zqd _ rfl ?_ ?_ <;> intro hc <;> (((try simp only [z0e] at hc); (try omega)))) | refine nxt ?_ | refine zqz ?_ | (refine hK _ ?_; clear hK K))
   (refine Exists.intro _ (And.intro ?_ ⟨i + 1, rfl, ?_⟩)); rotate_left; (simp (disch := omega) only [go_sem, Nat.reduceBEq, Nat.reduceLeDiff, r1, r4, r5, r18, r19, r20, rH0, true_and, Int.natCast_add, Int.natCast_one, k1, k2]); rotate_left
   ·omega
   ·exact ⟨by omega, by omega⟩
 ·obtain rfl : i = 2 := by omega
  rw [hS2] at q4 q5
  have w1 : wS 1 t = z7w 1 t.head + z7w 1 t.words := rfl
  have w2 : wS 2 t = z7w 2 t.head + z7w 2 t.words := rfl
  rw [<- w1] at q4
  rw [<- w2] at q5
  repeat' (first | refine nxt ?_ | ((refine zqh fun K hK => ?_); (simp (disch := omega) only [go_sem, Nat.reduceBEq, ↓reduceIte, reduceCtorEq, Nat.reduceAdd, q1, q19, q20, qH0])) | (refine zqd _ rfl ?_ ?_ <;> intro hc <;> (first | (cases hc; done) | ((try simp only [decide_eq_false_iff_not] at hc); (try omega)))) | refine zqz ?_ | (refine hK _ ?_; clear hK K))
  (refine z8h (fun U st => ∃ (j : _), U = t.kids.length - j /\ st.t 1 = .ptr 0 0 /\ st.t 4 = .int .i64 ((wS 1 t + ((t.kids.take j).map (wtT (wS 1))).sum : Nat) : Int) /\ st.t 5 = .int .i64 ((wS 2 t + ((t.kids.take j).map (wtT (wS 2))).sum : Nat) : Int) /\ st.t 43 = z76 t.kids /\ st.t 44 = .int .i64 t.kids.length /\ st.t 45 = .int .i64 j /\ st.H 0 = some (.box 33 (z0s t)) /\ (j <= t.kids.length) /\ (0 < st.nx)) ?_ ?_); rotate_left; (rintro U st ⟨j, rfl, u1, u4, u5, u43, u44, u45, uH0, up0, up1⟩); rotate_left
  ·(refine ⟨_, 0, rfl, ?_⟩); (simp (disch := omega) only [go_sem, Nat.reduceBEq, q1, q4, q5, qH0, true_and, Int.natCast_add, Int.natCast_zero, List.map_nil, z76])
   exact ⟨by simp, by simp, by omega⟩
  have v1 := z70 (f := wtT (wS 1)) (l := t.kids) (k := j)
  have v2 := z70 (f := wtT (wS 2)) (l := t.kids) (k := j)
  by_cases hj : j < t.kids.length
  ·have x1 := zmi (f := wtT (wS 1)) hj
   have x2 := zmi (f := wtT (wS 2)) hj
   have y1 := z70 (f := wtT (wS 1)) (l := t.kids) (k := j + 1)
   have y2 := z70 (f := wtT (wS 2)) (l := t.kids) (k := j + 1)
   have hin := ih t.kids[j] (List.getElem_mem hj) (h4 _ (List.getElem_mem hj)) (by omega) (by omega)
   repeat' (first | ((first | refine zqh fun K hK => ?_ | refine zqr fun K hK => ?_ | refine zqs (hin) ?_); (simp (disch := omega) only [go_sem, Nat.reduceBEq, ↓reduceIte, reduceCtorEq, Nat.reduceAdd, Nat.reduceLeDiff, u4, u5, u43, u44, u45, z76])) | (refine zqd _ rfl ?_ ?_ <;> intro hc <;> (((try simp only [z0e] at hc); (try omega)))) | refine nxt ?_ | (refine hK _ ?_; clear hK K))
   (refine Exists.intro _ (And.intro ?_ ⟨j + 1, rfl, ?_⟩)); rotate_left; (simp (disch := omega) only [go_sem, Nat.reduceBEq, u1, u4, u5, u43, u44, u45, uH0, true_and, and_true, Int.natCast_add, Int.natCast_one, x1, x2]); rotate_left
   ·omega
   ·exact ⟨by omega, by omega, by omega⟩
  ·have hta : t.kids.take j = t.kids := List.take_of_length_le (by omega)
   rw [hta, <- e1] at u4
   rw [hta, <- e2] at u5
   repeat' (first | ((refine zqh fun K hK => ?_); (simp (disch := omega) only [go_sem, Nat.reduceBEq, ↓reduceIte, u4, u5, u44, u45])) | (refine zqd _ rfl ?_ ?_ <;> intro hc <;> (((try simp only [z0e] at hc); (try omega)))) | refine nxt ?_ | refine zqz ?_ | refine zqu (by simp only [go_sem]; rfl) rfl ?_ | (refine hK _ ?_; clear hK K))
   exact z21 rfl (Le.refl _)
end
end Go.Proofs.YtfechgagcgbldaaDoor
namespace Go.Proofs.YtfechgagcgbldaaDoor.Abs
open Go.RowKit
variable {P : Program}
theorem zwt {f : FuncId} {ds : List D} {k : Nat} {r : D} {o o' : HObj} (hr : lowD (k + 1) r = true) (ho : lowO (k + 1) o' = true)
  (h : ∀ H nx, k < nx -> H k = some o -> AC P f ds H nx fun r' H' _ => r' = r /\ H' k = some o' /\ ∀ id, id < nx -> id ≠ k -> H' id = H id) : TC P f ds k o o' r := by
 intro H nx O hH
 have h1 := z90 (h H nx O hH) (fun r' H' nx' ⟨hr', h2, h3⟩ => by
  subst hr'
  refine ⟨zd6 (by omega) _ hr, fun id q hid hq => ?_⟩
  by_cases e : id = k
  ·subst e; rw [h2] at hq; cases hq; exact .inr (zi5 (by omega) ho)
  ·exact .inl (by rw [<- h3 id hid e]; exact hq))
 refine ⟨h1.1, fun s w vs e1 e2 e3 e4 => (h1.2 s w vs e1 e2 e3 e4).mono fun e w' ⟨v, r1, s1, he, ⟨hnx, H', nx', ⟨hr', h2, h3⟩, hcut⟩, hstep, hRH, hrel⟩ => ⟨v, r1, s1, he, ⟨hr', ?_, hnx⟩, hstep, hRH, hrel⟩⟩
 rw [hcut]
 funext id
 unfold zor z0u
 by_cases e : id = k
 ·subst e; rw [if_pos O, if_pos rfl]; exact h2
 ·rw [if_neg e]
  split
  ·rename_i hlt; exact h3 id hlt e
  ·rename_i hlt
   cases hHi : H id with
   | none => rfl
   | some q =>
    have := (e3.obj id q (by rw [e1]; exact hHi)).1
    omega
end Go.Proofs.YtfechgagcgbldaaDoor.Abs
namespace Go.Proofs.YtfechgagcgbldaaDoor
open _root_.Go.Proofs.Tryd
section
open Abs Facts Tr
attribute [local irreducible] awp
set_option maxRecDepth 100000
theorem zb7 {β : Type} {enc : β -> D} (he : ∀ x, pureD (enc x) = true) : ∀ (l : List (Idv × β)) (i : Idv), pureD (z6r enc l i) = true
 | [], _ => rfl
 | p :: l, i => by
  unfold z6r
  split
  ·exact zb7 he l i
  ·split
   ·exact he _
   ·rfl
theorem zmo {β : Type} {enc : β -> D} (he : ∀ x, pureD (enc x) = true) (n : Nat) (l : List (Idv × β)) : lowO n (.map (mapI enc l)) = true := by
 show (lowD.lowL n ((mapI enc l).map (·.1)) && lowD.lowL n ((mapI enc l).map (·.2))) = true
 unfold mapI
 rw [List.map_map, List.map_map, Bool.and_eq_true]
 exact ⟨z1u _ _ (z0g (fun _ => rfl) _), z1u _ _ (z0g (fun i => zb7 he l i) _)⟩
def unP (x : T) : Idv × T := (x.id, x)
theorem zmp (k : Nat) : ∀ u : T, szB u = true -> ∀ l : List (Idv × T), TC prog 40 [z1n u, .mp k] k (.map (mapI z1n l)) (.map (mapI z1n (l ++ (nodesT u).map unP))) (.mp k) := by
 refine z6x fun u ih hs l => ?_
 obtain ⟨h0, h1, g1, h2, g2, h3, h4⟩ := (z4i u).1 hs
 refine zwt (by simp [lowD]) (zmo z0n _ _) fun H nx O hH => ?_
 have hq := z03 O
 refine (z2o [] func40 rfl (by decide +kernel) rfl ?_)
 show awp _ _ (Code.seq _ _) _ _
 rcases zez z1n l u.id u with ⟨hm, n, hf, hp⟩ | ⟨hm, hf, hp⟩
 all_goals
  rw [zva] at hp
  repeat' (first | refine nxt ?_ | ((refine zqh fun K hK => ?_); (simp (disch := omega) only [go_sem, Nat.reduceBEq, ↓reduceIte, reduceCtorEq, Nat.reduceAdd, Nat.reduceLeDiff, hq, hH, hf, hp])) | (refine hK _ ?_; clear hK K))
  (refine z8h (fun U st => ∃ (i : _), U = u.kids.length - i /\ st.t 1 = .mp k /\ st.t 2 = .ptr nx 0 /\ st.t 12 = z0t u.kids /\ st.t 13 = .int .i64 u.kids.length /\ st.t 14 = .int .i64 i /\ st.H (k) = some (.map (mapI z1n (l ++ (u.id, u) :: ((u.kids.take i).flatMap nodesT).map unP))) /\ st.H (nx) = some (.box 27 (z08 u)) /\ (i <= u.kids.length) /\ (nx < st.nx) /\ (∀ id, id < nx -> id ≠ k -> st.H id = H id)) ?_ ?_); rotate_left; (rintro U st ⟨i, rfl, q1, q2, q12, q13, q14, qHk, qHnx, qp0, qp1, qp2⟩); rotate_left
  ·(refine ⟨_, 0, rfl, ?_⟩); (simp (disch := omega) only [go_sem, Nat.reduceBEq, true_and, Int.natCast_zero, List.flatMap_nil, List.map_nil, z0t, hq])
   exact ⟨by omega, fun id hid hne => by simp (disch := omega) only [z0c]⟩
  have hqs := z03 (show k < st.nx by omega)
  have hqn := z03 qp1
  by_cases hi : i < u.kids.length
  ·have hin := ih u.kids[i] (List.getElem_mem hi) (h4 _ (List.getElem_mem hi)) (l ++ (u.id, u) :: ((u.kids.take i).flatMap nodesT).map unP)
   have htk : l ++ (u.id, u) :: ((u.kids.take i).flatMap nodesT).map unP ++ (nodesT u.kids[i]).map unP = l ++ (u.id, u) :: ((u.kids.take (i + 1)).flatMap nodesT).map unP := by
    rw [List.take_succ_eq_append_getElem hi, List.flatMap_append, List.map_append]; simp
   rw [htk] at hin
   repeat' (first | ((first | refine zqh fun K hK => ?_ | refine zqr fun K hK => ?_ | ((refine zh9 (hin) ?_ ?_ ?_); (focus ((simp (disch := omega) only [go_sem, qHk, hqs]); done)); (focus (((simp (disch := omega) only [go_sem]); done))))); (simp (disch := omega) only [go_sem, Nat.reduceBEq, ↓reduceIte, reduceCtorEq, Nat.reduceAdd, Nat.reduceLeDiff, q1, q12, q13, q14, z0t])) | (refine zqd _ rfl ?_ ?_ <;> intro hc <;> (((try simp only [z0e] at hc); (try omega)))) | refine nxt ?_ | (refine hK _ ?_; clear hK K))
   (refine Exists.intro _ (And.intro ?_ ⟨i + 1, rfl, ?_⟩)); rotate_left; (simp (disch := omega) only [go_sem, Nat.reduceBEq, q1, q2, q12, q13, q14, qHk, qHnx, true_and, Int.natCast_add, Int.natCast_one, hq, hqs, hqn]); rotate_left
   ·omega
   ·exact ⟨by omega, fun id hid hne => by simp (disch := omega) only [z0c]; exact qp2 id hid hne⟩
  ·repeat' (first | ((refine zqh fun K hK => ?_); (simp (disch := omega) only [go_sem, Nat.reduceBEq, ↓reduceIte, q1, q13, q14])) | (refine zqd _ rfl ?_ ?_ <;> intro hc <;> (((try simp only [z0e] at hc); (try omega)))) | refine nxt ?_ | refine zqz ?_ | refine zqu (by simp only [go_sem]; rfl) rfl ?_ | (refine hK _ ?_; clear hK K))
   have hta : u.kids.take i = u.kids := List.take_of_length_le (by omega)
   rw [hta] at qHk
   have e : l ++ (nodesT u).map unP = l ++ (u.id, u) :: (u.kids.flatMap nodesT).map unP := by rw [z17]; rfl
   rw [e]
   (simp (disch := omega) only [go_sem, Nat.reduceBEq, qHk])
   exact qp2
namespace Tr
end Tr
theorem zjm {β : Type} {enc : β -> D} {k : Idv} : ∀ {l : List (Idv × β)}, k ∈ l.map (·.1) -> ∃ v, (k, v) ∈ l /\ z6r enc l k = enc v
 | [], h => by cases h
 | p :: l, h => by
  unfold z6r
  by_cases h2 : k ∈ l.map (·.1)
  ·obtain ⟨v, h3, h4⟩ := zjm (enc := enc) h2
   exact ⟨v, List.mem_cons_of_mem _ h3, by rw [if_pos h2, h4]⟩
  ·rw [List.map_cons, List.mem_cons] at h
   rcases h with h | h
   ·exact ⟨p.2, by rw [h]; simp, by rw [if_neg h2, if_pos h.symm]⟩
   ·exact absurd h h2
end
section
open Abs Facts Tr
attribute [local irreducible] awp
namespace Tr
end Tr
end
section
open Abs Facts Go.Lib
variable {P : Program}
end
section
open Abs Facts Go.Lib Go.Shelf Go.RowKit
end
section
open Abs Facts Go.Lib Go.RowKit
end
section
open Abs Facts Tr
attribute [local irreducible] awp
namespace Abs
def zvy (t : T) : List D := [.int .i64 t.id.act, .int .i64 t.id.item, .int .i64 t.id.n, .int .i64 t.kind, .str t.label, z1x t.head, z1x t.words, z0t t.kids]
end Abs
end
end Go.Proofs.YtfechgagcgbldaaDoor
namespace Go.Proofs.YtfechgagcgbldaaDoor.Abs
theorem zie {P : Program} {own : List Nat} {a b : Code} {Q : Exit -> St -> Prop} {st : St} (I : St -> Prop) (h2 : awp P own a (zky I Q) st) (h1 : ∀ st, I st -> awp P own b Q st) : awp P own (.seq a b) Q st :=
 z4n a _ _ st (zjg (fun st h => ⟨st, SealTo.refl st, h1 st h⟩) (fun _ _ h => h)) h2
theorem z9q {P : Program} {own : List Nat} {a b c : Code} {Q : Exit -> St -> Prop} {st : St} (I : St -> Prop) (h2 : awp P own (.seq a b) (zky I Q) st) (h1 : ∀ st, I st -> awp P own c Q st) : awp P own (.seq a (.seq b c)) Q st :=
 z4n a _ _ st (fun e st h => by
  cases e with
  | normal => obtain ⟨st', hs, h⟩ := h; exact ⟨st', hs, zie I h h1⟩
  | _ => exact h) h2
end Go.Proofs.YtfechgagcgbldaaDoor.Abs
namespace Go.Proofs.YtfechgagcgbldaaDoor
section
open Abs Facts Tr
attribute [local irreducible] awp
set_option maxRecDepth 100000
namespace Tr
end Tr
theorem z9u {k nx : Nat} (h : k < nx) : (nx + 4 == nx) = false /\ (nx + 4 == nx + 1) = false /\ (nx + 4 == nx + 2) = false /\ (nx + 4 == nx + 3) = false /\ (nx == nx + 4) = false /\ (nx + 1 == nx + 4) = false /\ (nx + 2 == nx + 4) = false /\ (nx + 3 == nx + 4) = false /\ (k == nx + 4) = false /\ (nx + 4 == k) = false :=
 ⟨z1o (by omega), z1o (by omega), z1o (by omega), z1o (by omega), z1o (by omega), z1o (by omega), z1o (by omega), z1o (by omega), z1o (by omega), z1o (by omega)⟩
namespace Tr
theorem zkf {m : List Idv} {i : Idv} (hn : m.Nodup) (hi : i ∉ m) : (m ++ [i]).Nodup := by
 rw [List.nodup_append]
 exact ⟨hn, by simp, fun a ha b hb => by rw [List.mem_singleton] at hb; subst hb; exact fun e => hi (e ▸ ha)⟩
end Tr
namespace Tr
end Tr
namespace Abs
def zop : List Oper -> Nat -> Option Oper
 | [], _ => none
 | o :: _, 0 => some o
 | _ :: l, k + 1 => zop l k
def z8f (opl : List Oper) : List Nat -> List Oper
 | [] => []
 | k :: l => match zop opl k with
  | some o => o :: z8f opl l
  | none => z8f opl l
theorem z4v {P : Program} {own : List Nat} {K : St -> Prop} {opl : List Oper} {l : List Nat} {st : St} (h : z2n P own (opl.map (·.dst)) (z8f opl l) K st) (hl : l.map (fun k => opl.toArray[k]?) = (z8f opl l).map some) : zbw P own opl.toArray K (.run l) st := zvw hl h
theorem zah {P : Program} {own : List Nat} {K : St -> Prop} {opl : List Oper} {l : List Nat} {a b : OT} {st : St} (h : z2n P own (opl.map (·.dst)) (z8f opl l) (fun st => zbw P own opl.toArray K a st /\ zbw P own opl.toArray K b st) st) (hl : l.map (fun k => opl.toArray[k]?) = (z8f opl l).map some) : zbw P own opl.toArray K (.fork l a b) st := zsy hl h
end Abs
theorem zqv {K : St -> Prop} {Q : Exit -> St -> Prop} {st : St} (h : K st) : zky K Q .normal st := h
end
open _root_.Go.Proofs.Tryd
section
open Abs Facts Tr
attribute [local irreducible] awp
set_option maxRecDepth 100000
theorem zck {k nx : Nat} (h : k < nx) : (nx + 5 == nx) = false /\ (nx + 5 == nx + 1) = false /\ (nx + 5 == nx + 2) = false /\ (nx + 5 == nx + 3) = false /\ (nx + 5 == nx + 4) = false /\ (nx == nx + 5) = false /\ (nx + 1 == nx + 5) = false /\ (nx + 2 == nx + 5) = false /\ (nx + 3 == nx + 5) = false /\ (nx + 4 == nx + 5) = false /\ (k == nx + 5) = false /\ (nx + 5 == k) = false :=
 ⟨z1o (by omega), z1o (by omega), z1o (by omega), z1o (by omega), z1o (by omega), z1o (by omega), z1o (by omega), z1o (by omega), z1o (by omega), z1o (by omega), z1o (by omega), z1o (by omega)⟩
namespace Tr
theorem zsv {a : List ByteArray} : ∀ (l : List (Nat × Nat)) (i k : Nat), zoo a [] l i k -> l = []
 | [], _, _, _ => rfl
 | (x, y) :: l, i, k, h => by
  obtain ⟨q1, q2, q3, q4, _⟩ := h
  exact absurd q4 (Nat.not_lt_zero _)
theorem zfs (a : List ByteArray) : z3n a [] = a.map (stW 2) := by
 unfold z3n
 rw [zsv _ _ _ (z71 a [])]
 simp [wov]
def zb6 (t : T) : HObj := .map (mapI z1n ((nodesT t).map unP))
end Tr
theorem zmn (B : T) (i : Idv) : (i ∈ idsT B /\ z23 i B = true /\ ∃ n v, z2y prog 23 (.agg [.int .i64 i.act, .int .i64 i.item, .int .i64 i.n]) (mapI z1n ((nodesT B).map unP)) = some (some (n, .agg (z08 v)))) \/
  (i ∉ idsT B /\ z23 i B = false /\ z2y prog 23 (.agg [.int .i64 i.act, .int .i64 i.item, .int .i64 i.n]) (mapI z1n ((nodesT B).map unP)) = some none) := by
 have O : ((nodesT B).map unP).map (·.1) = idsT B := by rw [List.map_map]; rfl
 have hg := zcb z1n ((nodesT B).map unP) i
 rw [O] at hg
 by_cases h : i ∈ idsT B
 ·obtain ⟨v, _, hv⟩ := zjm (enc := z1n) (l := (nodesT B).map unP) (k := i) (by rw [O]; exact h)
  rw [if_pos h, hv] at hg
  exact .inl ⟨h, by rw [z1q, decide_eq_true h], _, v, hg⟩
 ·rw [if_neg h] at hg
  exact .inr ⟨h, by rw [z1q, decide_eq_false h], hg⟩
set_option maxHeartbeats 16000000 in
theorem zzb (B : T) (j0 j j2 : Nat) : ∀ u : T, szB u = true -> ∀ H nx, j < nx -> H j = some (zb6 B) -> RC prog 47 [.agg [.mp j0, .mp j, .mp j2], z1n u] H nx (z8i (z53 B u)) := by
 refine z6x fun u ih hs H nx hj hHj => ?_
 obtain ⟨h0, h1, g1, h2, g2, h3, h4⟩ := (z4i u).1 hs
 have c1 : PC prog 43 [z1x u.head, .nil] (z0w ((txt u.head).map (stW 2))) := by
  have h := z83 u.head [] h1 (by simp)
  rw [show txt [] = [] from rfl, zfs] at h
  exact PC.le h (by simp only [pureD.pureL, pureD, z1t, Bool.and_self]) ⟨Le.refl _, Le.nil 4, trivial⟩
 have c2 : PC prog 43 [z1x u.words, .nil] (z0w ((txt u.words).map (stW 2))) := by
  have h := z83 u.words [] h2 (by simp)
  rw [show txt [] = [] from rfl, zfs] at h
  exact PC.le h (by simp only [pureD.pureL, pureD, z1t, Bool.and_self]) ⟨Le.refl _, Le.nil 4, trivial⟩
 unfold z0w at c1 c2
 refine zmr (k := 4) (z2t _) ?_
 have hr := z03 hj
 have hr5 := z9u hj
 have hr6 := zck hj
 unfold zb6 at hHj
 refine (z2o [8000000, 3000023, 3000025, 3000027, 3000029, 5000030, 3000032, 5000033, 3000043, 3000044, 3000045] func47 rfl (by decide +kernel) rfl ?_)
 show awp _ _ (Code.seq _ _) _ _
 rw [show Tryd.f47.results.toList = [.cell 4 33] from rfl]
 rw [zg9]
 rcases zmn B u.id with ⟨hm, hh, n, v, hf⟩ | ⟨hm, hh, hf⟩
 ·rw [if_pos hh]
  repeat' (first | refine zqj ?_ | ((refine zqh fun K hK => ?_); (simp (disch := omega) only [go_sem, Nat.reduceBEq, ↓reduceIte, reduceCtorEq, Nat.reduceAdd, Nat.reduceLeDiff, hr, hHj, hf])) | (refine zqd _ rfl ?_ ?_ <;> intro hc <;> (first | (cases hc; done) | ((try simp only [] at hc); (try omega)))) | refine zqg ?_ | refine zqu (by (simp (disch := omega) only [go_sem, Nat.reduceBEq, ↓reduceIte, Nat.reduceAdd, Nat.reduceLeDiff, hr]); rfl) rfl ?_ | (refine hK _ ?_; clear hK K))
  (simp (disch := omega) only [go_sem])
  refine ⟨z21 (nx := 0) rfl ?_, fun id hid => by simp (disch := omega) only [z0c]⟩
  rw [z1d]
  exact Le.agg ⟨Le.refl _, Le.refl _, Le.refl _, Le.refl _, Le.refl _, Le.refl _, Le.refl _, Le.refl _, Le.nil 2, Le.nil 2, Le.nil 11, trivial⟩
 ·rw [hh, if_neg (by decide)]
  repeat' (first | refine zqj ?_ | ((first | refine z1k (N := 5) rfl fun K hK => ?_ | refine zgw (N := 5) rfl (by decide +kernel) fun K hK => ?_ | refine zqt (c1) ?_ | refine zqt (c2) ?_); (simp (disch := omega) only [go_sem, Nat.reduceBEq, Nat.reduceEqDiff, ↓reduceIte, reduceCtorEq, Nat.reduceAdd, Nat.reduceLeDiff, hr, hr5, hHj, hf, z1x])) | (refine zqd _ rfl ?_ ?_ <;> intro hc <;> (first | (cases hc; done) | ((try simp only [] at hc); (try omega)))) | refine zqb ?_ | (refine hK _ ?_; clear hK K))
  refine z5h fun K hK => ?_
  (simp (disch := omega) only [go_sem, Nat.reduceBEq, ↓reduceIte, reduceCtorEq, Nat.reduceAdd, hr, hr5, z0t])
  refine hK _ _ (zf9 (b := nx + 4) (off := 10) (e := 33) 33 (by (simp (disch := omega) only [go_sem, hr5]); rfl) rfl) ?_
  clear hK K
  repeat' (refine zqa ?_)
  (refine z8h (fun U st => ∃ (i : _), U = u.kids.length - i /\ st.t 2 = .ptr nx 0 /\ st.t 4 = .ptr (nx + 2) 0 /\ st.t 7 = .ptr (nx + 4) 0 /\ st.t 36 = z0t u.kids /\ st.t 37 = .int .i64 u.kids.length /\ st.t 38 = .int .i64 i /\ st.H (nx) = some (.box 57 [.mp j0, .mp j, .mp j2]) /\ st.H (nx + 2) = some (.box 33 [.int .i64 0, .int .i64 0, .int .i64 0, .int .i64 0, .int .i64 0, .str ByteArray.empty, .str ByteArray.empty, .bool false, .nil, .nil, .nil]) /\ st.H (nx + 4) = some (.box 33 [.int .i64 2, .int .i64 u.kind, .int .i64 u.id.act, .int .i64 u.id.item, .int .i64 u.id.n, .str u.label, .str ByteArray.empty, .bool false, z0w ((txt u.head).map (stW 2)), z0w ((txt u.words).map (stW 2)), .osl (nx + 5) i]) /\ st.H (nx + 5) = some (.row 33 i (((u.kids.take i).map (z53 B)).flatMap z0s)) /\ st.H (j) = some (.map (mapI z1n ((nodesT B).map unP))) /\ (i <= u.kids.length) /\ (nx + 6 <= st.nx) /\ (∀ id, id < nx -> st.H id = H id)) ?_ ?_); rotate_left; (rintro U st ⟨i, rfl, q2, q4, q7, q36, q37, q38, qHnx, qHnx2, qHnx4, qHnx5, qHj, qp0, qp1, qp2⟩); rotate_left
  ·(refine ⟨_, 0, rfl, ?_⟩); (simp (disch := omega) only [go_sem, Nat.reduceBEq, Nat.reduceLeDiff, true_and, Int.natCast_zero, List.flatMap_nil, List.map_nil, z0t, z0w, hr, hr5, hr6])
   exact ⟨hHj, Nat.le_refl _, fun id hid => by simp (disch := omega) only [z0c]⟩
  have hrs := z03 (show j < st.nx by omega)
  have hq0 := z03 (show nx < st.nx by omega)
  have hq2 := z03 (show nx + 2 < st.nx by omega)
  have hq4 := z03 (show nx + 4 < st.nx by omega)
  have hq5 := z03 (show nx + 5 < st.nx by omega)
  by_cases hi : i < u.kids.length
  ·have hin := fun H nx => ih u.kids[i] (List.getElem_mem hi) (h4 _ (List.getElem_mem hi)) H nx
   unfold zb6 at hin
   repeat' (first | ((first | refine zqh fun K hK => ?_ | refine zqq (by decide +kernel) fun K hK => ?_ | ((refine zh8 (hin _ _ ?_ ?_) rfl ?_); (focus (((simp (disch := omega) only [go_sem]); done))); (focus ((simp (disch := omega) only [go_sem, qHj, hrs]); done)))); (simp (disch := omega) only [go_sem, Nat.reduceBEq, Nat.reduceEqDiff, ↓reduceIte, reduceCtorEq, Nat.reduceAdd, Nat.reduceMul, Nat.reduceLeDiff, Nat.reduceLT, q2, q7, q36, q37, q38, qHnx, qHnx4, qHnx5, hr6, hq0, hq4, hq5, z0t])) | (refine zqd _ rfl ?_ ?_ <;> intro hc <;> (((try simp only [z0e] at hc); (try omega)))) | refine zqa ?_ | refine zqb ?_ | refine zqv ?_ | refine zqy ?_ | (refine hK _ ?_; clear hK K))
   refine ⟨_, SealTo.refl _, ?_⟩
   repeat' (first | ((refine zqr fun K hK => ?_); (simp (disch := omega) only [go_sem, Nat.reduceBEq, ↓reduceIte, q38])) | (refine hK _ ?_; clear hK K))
   (refine Exists.intro _ (And.intro ?_ ⟨i + 1, rfl, ?_⟩)); rotate_left; (simp (disch := omega) only [go_sem, Nat.reduceBEq, Nat.reduceLeDiff, q2, q4, q7, q36, q37, q38, qHnx, qHnx2, qHnx4, qHnx5, qHj, true_and, Int.natCast_add, Int.natCast_one, List.flatMap_append, List.flatMap_cons, List.flatMap_nil, List.map_append, List.map_cons, List.map_nil, List.append_nil, hr5, hr6, hrs, hq0, hq2, hq4, hq5, List.take_succ_eq_append_getElem hi]); rotate_left
   ·omega
   ·exact ⟨by omega, by omega, fun id hid => by simp (disch := omega) only [z0c]; exact qp2 id hid⟩
  ·repeat' (first | ((refine zqh fun K hK => ?_); (simp (disch := omega) only [go_sem, ↓reduceIte, q37, q38])) | (refine zqd _ rfl ?_ ?_ <;> intro hc <;> (((try simp only [z0e] at hc); (try omega)))) | refine zqc ?_ | refine zqv ?_ | refine zqz ?_ | refine zqp ?_ | (refine hK _ ?_; clear hK K))
   refine ⟨_, SealTo.refl _, ?_⟩
   repeat' (first | ((refine zqh fun K hK => ?_); (simp (disch := omega) only [go_sem, Nat.reduceBEq, ↓reduceIte, Nat.reduceAdd, Nat.reduceLeDiff, q4, q7, qHnx2, qHnx4])) | refine zqn ?_ | refine zqu (by (simp (disch := omega) only [go_sem, Nat.reduceBEq, ↓reduceIte, Nat.reduceAdd, Nat.reduceLeDiff, q4, qHnx2]); rfl) rfl ?_ | (refine hK _ ?_; clear hK K))
   have hie : i = (u.kids.map (z53 B)).length := by rw [List.length_map]; omega
   have hta : u.kids.take i = u.kids := List.take_of_length_le (by omega)
   rw [hta] at qHnx5
   (simp (disch := omega) only [go_sem])
   refine ⟨?_, fun id hid => by simp (disch := omega) only [z0c]; exact qp2 id hid⟩
   rw [zee, z1d]
   refine zbh (nx := 0) (zi3 (k := 3) (by simp [pureD.pureL, pureD]) ?_)
   refine z0b (z07 2 rfl) (z0b (z07 2 rfl) (z0b (z07 2 rfl) (z0b (z07 2 rfl) (z0b (z07 2 rfl) (z0b (z07 2 rfl) (z0b (z07 2 rfl) (z0b (z07 2 rfl) (z0b (z07 2 (z3s _)) (z0b (z07 2 (z3s _)) (z0b ?_ z40))))))))))
   rw [hie]
   refine z29 (f := z0s) (l := u.kids.map (z53 B)) 1 ?_ zmd zsl z41 z5i
   unfold hiH
   rw [if_pos (by omega), z26 _ (by omega), <- hie]
   exact qHnx5
namespace Tr
structure Plc where
 par : Idv
 pos : Int
 unit : T
def plcF (t : T) (l : List (List (Idv × Plc))) : List (Idv × Plc) := (t.kids.zip l).zipIdx.flatMap fun q => (q.1.1.id, ⟨t.id, (q.2 : Int), q.1.1⟩) :: q.1.2
def zt6 (t : T) : List (Idv × Plc) := ze9 plcF t
def zlx (t : T) (i : Nat) : List (Idv × Plc) := ((t.kids.take i).zipIdx).flatMap fun q => (q.1.id, (⟨t.id, (q.2 : Int), q.1⟩ : Plc)) :: zt6 q.1
theorem zgt (t : T) : zt6 t = zlx t t.kids.length := by
 unfold zlx
 rw [List.take_length]
 unfold zt6
 rw [z37, plcF]
 generalize ze9 plcF = f
 generalize 0 = n
 induction t.kids generalizing n with
 | nil => rfl
 | cons k l ih => simp only [List.map_cons, List.zip_cons_cons, List.zipIdx_cons, List.flatMap_cons, ih]
theorem zrd {t : T} {i : Nat} (h : i < t.kids.length) : zlx t (i + 1) = zlx t i ++ [(t.kids[i].id, ⟨t.id, (i : Int), t.kids[i]⟩)] ++ zt6 t.kids[i] := by
 unfold zlx
 rw [List.take_succ_eq_append_getElem h, List.zipIdx_append, List.flatMap_append]
 simp [List.length_take, Nat.min_eq_left (Nat.le_of_lt h)]
def plcs (t : T) : List (Idv × Plc) := (t.id, ⟨Idv.zero, 0, t⟩) :: zt6 t
end Tr
namespace Abs
def z30 (p : Plc) : List D := .int .i64 p.par.act :: .int .i64 p.par.item :: .int .i64 p.par.n :: .int .i64 p.pos :: z08 p.unit
def encPl (p : Plc) : D := .agg (z30 p)
theorem z3t (p : Plc) : z30 p = [.int .i64 p.par.act, .int .i64 p.par.item, .int .i64 p.par.n, .int .i64 p.pos, .int .i64 p.unit.id.act, .int .i64 p.unit.id.item, .int .i64 p.unit.id.n, .int .i64 p.unit.kind, .str p.unit.label, z1x p.unit.head, z1x p.unit.words, z0t p.unit.kids] := by
 rw [z30, z0v]
@[go_sem] theorem zre (p : Plc) : encPl p = .agg (z30 p) := rfl
@[go_sem] theorem zeg (p : Plc) : (z30 p).length = 12 := by rw [z3t]; rfl
@[go_sem] theorem zxn (p : Plc) : List.take 3 (z30 p) = [.int .i64 p.par.act, .int .i64 p.par.item, .int .i64 p.par.n] := by rw [z3t]; rfl
@[go_sem] theorem zxo (p : Plc) : (z30 p)[3]? = some (.int .i64 p.pos) := by rw [z3t]; rfl
@[go_sem] theorem zwe (p : Plc) : (z30 p)[7]? = some (.int .i64 p.unit.kind) := by rw [z3t]; rfl
@[go_sem] theorem zwf (p : Plc) : List.take 8 (List.drop 4 (z30 p)) = z08 p.unit := by rw [z3t, z0v]; rfl
@[go_sem] theorem zwg (p : Plc) : List.take 12 (z30 p) = z30 p := List.take_of_length_le (by rw [zeg]; exact Nat.le_refl _)
@[go_sem] theorem zt7 (a b c d e f g h i j k l : D) (p : Plc) : z13 [a, b, c, d, e, f, g, h, i, j, k, l] 0 (z30 p) = z30 p := by
 rw [z3t]; rfl
@[go_sem] theorem zxp (a b c d e f g h i j k l : D) (t : T) : z13 [a, b, c, d, e, f, g, h, i, j, k, l] 4 (z08 t) = a :: b :: c :: d :: z08 t := by
 rw [z0v]; rfl
theorem zbi (p : Plc) : pureD.pureL (z30 p) = true := by
 rw [z3t]; simp only [pureD.pureL, pureD, z1t, z8b, Bool.and_true]
theorem zat (p : Plc) : pureD (encPl p) = true := by unfold encPl; rw [pureD]; exact zbi p
attribute [go_sem] zbi
end Abs
namespace Abs
theorem zio {P : Program} {n : FuncId} {args cap : List D} {g : List Oper -> (St -> Prop) -> St -> Prop} {rest : List Oper} {K : St -> Prop} {st : St} {dst : Option Nat} {k : Nat} {o' : HObj} {r : D} (h : AC P n (args ++ cap) st.H st.nx fun r' H2 n2 => r' = r /\ H2 = z0u st.H k (some o') /\ n2 = st.nx)
  (O : g rest K ((st.withH (z0u st.H k (some o')) st.nx).put dst r)) : ze5 P (.fn n cap) args g rest K st dst :=
 z2v (h.mono fun r' H2 n2 ⟨h1, h2, h3⟩ => by subst h1; subst h2; subst h3; exact O)
end Abs
theorem znn (o w m : Nat) : ∀ u : T, szB u = true -> ∀ (l : List (Idv × Plc)) H nx, o < nx -> w < nx -> m < nx -> H o = some (.box 98 [.mp m]) -> H w = some (.box 136 [.fn 91 [.ptr o 0, .ptr w 0]]) -> H m = some (.map (mapI encPl l)) ->
  AC prog 91 [z1n u, .ptr o 0, .ptr w 0] H nx fun r' H' nx' => r' = .tup [] /\ H' = z0u H m (some (.map (mapI encPl (l ++ zt6 u)))) /\ nx' = nx := by
 refine z6x fun u ih hs l H nx ho hw hm hHo hHw hHm => ?_
 obtain ⟨h0, h1, g1, h2, g2, h3, h4⟩ := (z4i u).1 hs
 refine z01l rfl (zmo zat _ _) hm ?_
 have eom : o ≠ m := fun e => by subst e; rw [hHo] at hHm; cases hHm
 have ewm : w ≠ m := fun e => by subst e; rw [hHw] at hHm; cases hHm
 have e1 := z1o eom
 have e2 := z1o ewm
 have e3 := z03 ho
 have e4 := z03 hw
 have e5 := z03 hm
 have hz : zlx u 0 = [] := rfl
 refine (z2o [] func91 rfl (by decide +kernel) rfl ?_)
 show awp _ _ (Code.seq _ _) _ _
 repeat' (first | ((refine zqh fun K hK => ?_); (simp (disch := omega) only [go_sem, Nat.reduceBEq, ↓reduceIte, reduceCtorEq, Nat.reduceAdd])) | refine zqi ?_ | (refine hK _ ?_; clear hK K))
 (refine z8h (fun U st => ∃ (i : _), U = u.kids.length - i /\ st.t 1 = .ptr o 0 /\ st.t 2 = .ptr w 0 /\ st.t 3 = .ptr nx 0 /\ st.t 7 = z0t u.kids /\ st.t 8 = .int .i64 u.kids.length /\ st.t 9 = .int .i64 i /\ st.H (o) = some (.box 98 [.mp m]) /\ st.H (w) = some (.box 136 [.fn 91 [.ptr o 0, .ptr w 0]]) /\ st.H (m) = some (.map (mapI encPl (l ++ zlx u i))) /\ st.H (nx) = some (.box 27 (z08 u)) /\ (i <= u.kids.length) /\ (nx < st.nx) /\ (∀ id, id < nx -> id ≠ m -> st.H id = H id)) ?_ ?_); rotate_left; (rintro U st ⟨i, rfl, q1, q2, q3, q7, q8, q9, qHo, qHw, qHm, qHnx, qp0, qp1, qp2⟩); rotate_left
 ·(refine ⟨_, 0, rfl, ?_⟩); (simp (disch := omega) only [go_sem, Nat.reduceBEq, true_and, Int.natCast_zero, List.append_nil, z0t, e3, e4, e5, hz])
  exact ⟨hHo, hHw, hHm, by omega, fun id hid hne => by simp (disch := omega) only [z0c]⟩
 have f3 := z03 (show o < st.nx by omega)
 have f4 := z03 (show w < st.nx by omega)
 have f5 := z03 (show m < st.nx by omega)
 have f6 := z03 qp1
 by_cases hi : i < u.kids.length
 ·have hn := zrd hi
  have hn' : l ++ zlx u (i + 1) = l ++ zlx u i ++ [(u.kids[i].id, ⟨u.id, (i : Int), u.kids[i]⟩)] ++ zt6 u.kids[i] := by rw [hn]; simp only [List.append_assoc]
  rcases zez encPl (l ++ zlx u i) u.kids[i].id ⟨u.id, (i : Int), u.kids[i]⟩ with ⟨hmm, n, hf, hp⟩ | ⟨hmm, hf, hp⟩
  all_goals
   rw [zre, z30] at hp
   simp only [] at hp
  all_goals
   repeat' (first | ((first | refine zqh fun K hK => ?_ | refine zqr fun K hK => ?_); (simp (disch := omega) only [go_sem, Nat.reduceBEq, ↓reduceIte, reduceCtorEq, Nat.reduceAdd, Nat.reduceLeDiff, q1, q2, q3, q7, q8, q9, qHo, qHw, qHm, qHnx, e2, f3, f4, f5, f6, z0t, hf, hp])) | (refine zqd _ rfl ?_ ?_ <;> intro hc <;> (((try simp only [z0e] at hc); (try omega)))) | refine zqa ?_ | refine zqb ?_ | (refine hK _ ?_; clear hK K))
   refine zio (ih _ (List.getElem_mem hi) (h4 _ (List.getElem_mem hi)) (l ++ zlx u i ++ [(u.kids[i].id, ⟨u.id, (i : Int), u.kids[i]⟩)]) _ _ ?_ ?_ ?_ ?_ ?_ ?_) ?_
   any_goals
    (simp (disch := omega) only [go_sem, qHo, qHw, qHm, e1, e2, f3, f4, f5])
    all_goals omega
   rw [<- hn']
   (try (simp (disch := omega) only [go_sem])); repeat' (first | refine zqv ?_ | refine zqy ?_ | (refine hK _ ?_; clear hK K))
   refine ⟨_, SealTo.refl _, ?_⟩
   repeat' (first | ((refine zqr fun K hK => ?_); (simp (disch := omega) only [go_sem, Nat.reduceBEq, ↓reduceIte, q9])) | (refine hK _ ?_; clear hK K))
   (refine Exists.intro _ (And.intro ?_ ⟨i + 1, rfl, ?_⟩)); rotate_left; (simp (disch := omega) only [go_sem, Nat.reduceBEq, q1, q2, q3, q7, q8, q9, qHo, qHw, qHm, qHnx, true_and, Int.natCast_add, Int.natCast_one, e1, e2, e5, f3, f4, f5, f6]); rotate_left
   ·omega
   ·exact ⟨by omega, fun id hid hne => by simp (disch := omega) only [z0c]; exact qp2 id hid hne⟩
 ·repeat' (first | ((refine zqh fun K hK => ?_); (simp (disch := omega) only [go_sem, ↓reduceIte, q8, q9])) | (refine zqd _ rfl ?_ ?_ <;> intro hc <;> (((try simp only [z0e] at hc); (try omega)))) | refine zqc ?_ | refine zqz ?_ | refine zqp ?_ | refine zqu (by simp only [go_sem]; rfl) rfl ?_ | (refine hK _ ?_; clear hK K))
  have hil : i = u.kids.length := by omega
  rw [hil, <- zgt] at qHm
  (simp (disch := omega) only [go_sem, qHm])
  exact qp2
theorem zf7 {β : Type} {enc : β -> D} (he : ∀ x, pureD (enc x) = true) (l : List (Idv × β)) : z5v (.map (mapI enc l)) = true := by
 show (pureD.pureL ((mapI enc l).map (·.1)) && pureD.pureL ((mapI enc l).map (·.2))) = true
 unfold mapI
 rw [List.map_map, List.map_map, Bool.and_eq_true]
 exact ⟨z0g (fun _ => rfl) _, z0g (fun i => zb7 he l i) _⟩
theorem zun {β : Type} (enc : β -> D) (k : Idv) (v : β) : mapI enc [(k, v)] = [(z6e k, enc v)] := by simp [mapI, z15, z6r]
theorem zdb (u : T) (hs : szB u = true) : OC prog 75 [z1n u] [.map (mapI encPl (plcs u))] (.mp 0) := by
 refine zca (by simp only [pureD.pureL, z0n, Bool.and_self]) rfl (fun o ho => by rw [List.mem_singleton] at ho; subst ho; exact zf7 zat _) (z2o [] func75 rfl (by decide +kernel) rfl ?_)
 show awp _ _ (Code.seq _ _) _ _
 repeat' (first | ((refine zqh fun K hK => ?_); (simp (disch := omega) only [go_sem, Nat.reduceBEq, ↓reduceIte, reduceCtorEq, Nat.reduceAdd, Nat.reduceLeDiff, Nat.reduceLT])) | (refine hK _ ?_; clear hK K))
 refine zio (o' := .map (mapI encPl (plcs u))) (k := 1) (znn 2 3 1 u hs [(u.id, ⟨Idv.zero, 0, u⟩)] _ _ ?_ ?_ ?_ ?_ ?_ ?_) ?_
 any_goals
  (simp (disch := omega) only [go_sem, Nat.reduceBEq, Nat.reduceLT])
  all_goals first | omega | rfl | (rw [zun]; rfl)
 (try (simp (disch := omega) only [go_sem])); repeat' (first | ((refine zqh fun K hK => ?_); (simp (disch := omega) only [go_sem, Nat.reduceBEq, ↓reduceIte, Nat.reduceAdd])) | refine zqn ?_ | refine zqu (by simp only [go_sem]; rfl) rfl ?_ | (refine hK _ ?_; clear hK K))
 exact ⟨fun _ => 1, by (intro i j hi hj _; simp only [List.length_cons, List.length_nil] at hi hj; omega), rfl, fun j hj => by
  simp only [List.length_cons, List.length_nil] at hj
  obtain rfl : j = 0 := by omega
  (simp (disch := omega) only [go_sem, Nat.reduceBEq])⟩
end
end Go.Proofs.YtfechgagcgbldaaDoor
namespace Go.Proofs.YtfechgagcgbldaaDoor.Abs
open Go.RowKit
variable {P : Program}
def zaf (ops : Array Oper) (j i : Nat) : Bool := match ops[i]? with
 | some o => o.after.toList.any fun e => Region.binds .any e && e.on == j
 | none => false
def okP (own : List Nat) (ops : Array Oper) (j i : Nat) : Bool := zaf ops j i || match ops[j]?, ops[i]? with
 | some x, some y => z8t own ops x y || zvt own ops x y
 | _, _ => false
def pwB (p : Nat -> Nat -> Bool) : List Nat -> Bool
 | [] => true
 | i :: l => l.all (fun k => p i k) && pwB p l
theorem z8c {p : Nat -> Nat -> Bool} : ∀ {l : List Nat}, pwB p l = true -> l.Pairwise fun j i => p j i = true
 | [], _ => List.Pairwise.nil
 | i :: l, h => by
  simp only [pwB, Bool.and_eq_true, List.all_eq_true] at h
  exact List.pairwise_cons.2 ⟨h.1, z8c h.2⟩
def zhd (ops : Array Oper) : Bool := (List.range ops.size).all fun i => match ops[i]? with
 | some o => o.after.toList.all fun e => !Region.binds .any e || decide (e.on < i)
 | none => true
section
variable {own : List Nat} {ops : Array Oper} {K : St -> Prop}
theorem zch {j i : Nat} {oj oi : Oper} (h : okP own ops j i = true) (V : zaf ops j i = false) (hj : ops[j]? = some oj) (hi : ops[i]? = some oi) : zbx P own ops oj oi := by
 unfold okP at h
 rw [V, hj, hi] at h
 simp only [Bool.false_or, Bool.or_eq_true] at h
 rcases h with h | h
 ·exact fun st dx dy H1 H2 n1 n2 hx hy => swap h hx hy
 ·exact zsx h
theorem z6f {listed : Array Bool} {i : Nat} : i ∈ Region.ready .any ops listed ↔ i < ops.size /\ listed.getD i true = false /\ ∀ o, ops[i]? = some o -> ∀ e ∈ o.after.toList, Region.binds .any e = true -> listed.getD e.on false = true := by
 simp only [Region.ready, List.mem_filter, List.mem_range, Bool.and_eq_true, Bool.not_eq_true']
 constructor
 ·rintro ⟨h1, h2, h3⟩
  refine ⟨h1, h2, fun o ho e he hb => ?_⟩
  rw [ho] at h3
  simp only [Option.map_some, Option.getD_some, Array.all_eq_true'] at h3
  have := h3 e (by simpa using he)
  simpa [hb] using this
 ·rintro ⟨h1, h2, h3⟩
  refine ⟨h1, h2, ?_⟩
  rw [Array.getElem?_eq_getElem h1]
  simp only [Option.map_some, Option.getD_some, Array.all_eq_true']
  intro e he
  cases hb : Region.binds .any e with
  | false => rfl
  | true => simp only [Bool.not_true, Bool.false_or]; exact h3 _ (Array.getElem?_eq_getElem h1) e (by simpa using he) hb
theorem zog {listed : Array Bool} {j : Nat} (h1 : listed.getD j true = false) (h2 : listed.getD j false = true) : False := by
 simp only [Array.getD_eq_getD_getElem?] at h1 h2
 cases h : listed[j]? with
 | none => rw [h] at h2; cases h2
 | some b => rw [h] at h1 h2; simp only [Option.getD_some] at h1 h2; rw [h1] at h2; cases h2
theorem z6g {listed : Array Bool} {j i : Nat} (hi : i ∈ Region.ready .any ops listed) (hj : listed.getD j true = false) : zaf ops j i = false := by
 obtain ⟨h1, h2, h3⟩ := z6f.1 hi
 cases V : zaf ops j i with
 | false => rfl
 | true =>
  unfold zaf at V
  split at V
  ·rename_i o ho
   obtain ⟨e, he, hb⟩ := List.any_eq_true.1 V
   simp only [z0e] at hb
   have := h3 o ho e he hb.1
   rw [hb.2] at this
   exact (zog hj this).elim
  ·cases V
theorem zfp {listed : Array Bool} (hsz : listed.size = ops.size) (hlow : zhd ops = true) (hr : Region.ready .any ops listed = []) : ∀ n, n < ops.size -> listed.getD n true = false -> False := by
 intro n
 induction n using Nat.strongRecOn with
 | _ n ih =>
  intro hn hl
  have hm : n ∉ Region.ready .any ops listed := by rw [hr]; exact List.not_mem_nil
  refine hm (z6f.2 ⟨hn, hl, fun o ho e he hb => ?_⟩)
  have h1 := List.all_eq_true.1 hlow n (by simpa using hn)
  rw [ho] at h1
  have h2 := List.all_eq_true.1 h1 e he
  rw [hb] at h2
  simp only [Bool.not_true, Bool.false_or, decide_eq_true_eq] at h2
  cases h3 : listed.getD e.on false with
  | true => rfl
  | false =>
   refine (ih e.on h2 (by omega) ?_).elim
   simp only [Array.getD_eq_getD_getElem?] at h3 ⊢
   rw [Array.getElem?_eq_getElem (by omega)] at h3 ⊢
   simpa using h3
def Rest (ops : Array Oper) (listed : Array Bool) (L : List Nat) : Prop := L.Nodup /\ ∀ i, i ∈ L ↔ i < ops.size /\ listed.getD i true = false
theorem Rest.step {listed : Array Bool} {r1 r2 : List Nat} {i : Nat} (h : Rest ops listed (r1 ++ i :: r2)) : Rest ops (listed.setIfInBounds i true) (r1 ++ r2) := by
 obtain ⟨hn, hm⟩ := h
 have hp : (r1 ++ i :: r2).Perm (i :: (r1 ++ r2)) := List.perm_middle
 have hn2 := hp.nodup_iff.1 hn
 rw [List.nodup_cons] at hn2
 refine ⟨hn2.2, fun k => ?_⟩
 rw [z24, Bool.or_eq_false_iff]
 have h1 := hm k
 rw [hp.mem_iff, List.mem_cons] at h1
 constructor
 ·intro O
  obtain ⟨g1, g2⟩ := h1.1 (.inr O)
  exact ⟨g1, g2, by simp only [beq_eq_false_iff_ne]; rintro rfl; exact hn2.1 O⟩
 ·rintro ⟨g1, g2, g3⟩
  rcases h1.2 ⟨g1, g2⟩ with rfl | O
  ·simp at g3
  ·exact O
theorem zmb {N : Nat} {Q : Exit -> Act -> World -> Prop} (hlow : zhd ops = true) (hdst : ∀ (i : Nat) o, ops[i]? = some o -> z31 N o = true) :
  ∀ (fuel : Nat) (L : List Nat) (listed : Array Bool) (st : St) (s : RS) (a : Act) (w : World), L.length <= fuel -> listed.size = ops.size -> Rest ops listed L -> (L.Pairwise fun j i => okP own ops j i = true) -> z5e P own ops K L st -> Fr P N st s a w ->
  (∀ st' s' a' w', K st' -> Fr P N st' s' a' w' -> Step s w s' w' -> Q .normal a' w') -> wpAny P .any ops Q fuel listed a w := by
 have hend : ∀ {L : List Nat} {listed : Array Bool}, listed.size = ops.size -> Rest ops listed L -> Region.ready .any ops listed = [] -> L = [] := fun {L listed} hsz hR hr => by
  cases L with
  | nil => rfl
  | cons n L =>
   obtain ⟨h1, h2⟩ := (hR.2 n).1 (by simp)
   exact (zfp hsz hlow hr n h1 h2).elim
 intro fuel
 induction fuel with
 | zero =>
  intro L listed st s a w hl hsz hR hp hrun hf O
  have h0 : L = [] := List.eq_nil_of_length_eq_zero (by omega)
  subst h0
  refine ⟨?_, O st s a w hrun hf (Step.refl s w)⟩
  cases hr : Region.ready .any ops listed with
  | nil => rfl
  | cons i r =>
   obtain ⟨h1, h2, _⟩ := z6f.1 (show i ∈ Region.ready .any ops listed by rw [hr]; simp)
   have := (hR.2 i).2 ⟨h1, h2⟩
   cases this
 | succ fuel ih =>
  intro L listed st s a w hl hsz hR hp hrun hf O
  refine ⟨fun hr => ?_, fun i hi => ?_⟩
  ·have h0 := hend hsz hR hr
   subst h0
   exact O st s a w hrun hf (Step.refl s w)
  ·obtain ⟨h1, h2, _⟩ := z6f.1 hi
   have hoi := Array.getElem?_eq_getElem h1
   obtain ⟨r1, r2, rfl⟩ := List.append_of_mem ((hR.2 i).2 ⟨h1, h2⟩)
   have hpp := List.pairwise_append.1 hp
   have hun : ∀ j ∈ r1, listed.getD j true = false := fun j hj => ((hR.2 j).1 (by simp [hj])).2
   obtain ⟨o, d, H, nx, ho, hstep, hrest⟩ := zjo hoi r1 r2 st (fun j hj oj hoj => zch (hpp.2.2 j hj i (by simp)) (z6g hi (hun j hj)) hoj hoi) hrun
   refine z42 ho (hdst i o ho) hf hstep fun s' a' w' hf' hs' => ih (r1 ++ r2) _ _ s' a' w' ?_ (by simpa using hsz) hR.step ?_ hrest hf' fun st2 s2 a2 w2 hK2 hf2 hs2 => O st2 s2 a2 w2 hK2 hf2 (hs'.trans hs2)
   ·simp only [List.length_append, List.length_cons] at hl ⊢; omega
   ·exact hp.sublist (List.Sublist.append (List.Sublist.refl _) (List.sublist_cons_self _ _))
theorem zyt {N : Nat} {Q : Exit -> Act -> World -> Prop} {a b : Nat} {s1 s2 : List Nat} (hlow : zhd ops = true) (hdst : ∀ (i : Nat) o, ops[i]? = some o -> z31 N o = true)
  (hs1 : ∀ i ∈ s1, i = b \/ zaf ops a i = true \/ zaf ops b i = true) (hb : b ∈ s1) (ha : a ∈ s2) :
  ∀ (fuel : Nat) (pre : List Nat) (listed : Array Bool) (st : St) (s : RS) (c : Act) (w : World), pre.length + s1.length + s2.length + 1 <= fuel + s2.length -> pre.length + s2.length + 1 <= fuel -> listed.size = ops.size -> Rest ops listed (pre ++ a :: s1) -> Rest ops listed (pre ++ b :: s2) ->
  ((pre ++ [a]).Pairwise fun j i => okP own ops j i = true) -> ((pre ++ [b]).Pairwise fun j i => okP own ops j i = true) -> ((pre ++ s1).Pairwise fun j i => okP own ops j i = true) -> ((pre ++ s2).Pairwise fun j i => okP own ops j i = true) ->
  z5e P own ops (fun st => z5e P own ops K (a :: s1) st /\ z5e P own ops K (b :: s2) st) pre st -> Fr P N st s c w ->
  (∀ st' s' a' w', K st' -> Fr P N st' s' a' w' -> Step s w s' w' -> Q .normal a' w') -> wpAny P .any ops Q fuel listed c w := by
 intro fuel
 induction fuel with
 | zero => intro pre listed st s c w h1 h2; omega
 | succ fuel ih =>
  intro pre listed st s c w hl1 hl2 hsz hR1 hR2 pa pb p1 p2 hrun hf O
  have hua : listed.getD a true = false := ((hR1.2 a).1 (by simp)).2
  have hub : listed.getD b true = false := ((hR2.2 b).1 (by simp)).2
  refine ⟨fun hr => ?_, fun i hi => ?_⟩
  ·exact (zfp hsz hlow hr a ((hR1.2 a).1 (by simp)).1 hua).elim
  ·obtain ⟨h1, h2, _⟩ := z6f.1 hi
   have hoi := Array.getElem?_eq_getElem h1
   have hun : ∀ j ∈ pre, listed.getD j true = false := fun j hj => ((hR1.2 j).1 (by simp [hj])).2
   have toB : i = b -> wpOp P ops Q i (wpAny P .any ops Q fuel (listed.setIfInBounds i true)) c w := fun hib => by
    subst hib
    have hpp := List.pairwise_append.1 pb
    have hrun2 : z5e P own ops K (pre ++ i :: s2) st := by
     rw [z2d]; exact z47 (fun _ h => h.2) _ _ hrun
    obtain ⟨o, d, H, nx, ho, hstep, hrest⟩ := zjo hoi pre s2 st (fun j hj oj hoj => zch (hpp.2.2 j hj i (by simp)) (z6g hi (hun j hj)) hoj hoi) hrun2
    refine z42 ho (hdst i o ho) hf hstep fun s' a' w' hf' hs' => zmb hlow hdst fuel (pre ++ s2) _ _ s' a' w' ?_ (by simpa using hsz) hR2.step p2 hrest hf' fun st2 s2 a2 w2 hK2 hf2 hs2 => O st2 s2 a2 w2 hK2 hf2 (hs'.trans hs2)
    simp only [List.length_append]; omega
   have hm := (hR1.2 i).2 ⟨h1, h2⟩
   rw [List.mem_append, List.mem_cons] at hm
   rcases hm with hm | rfl | hm
   ·obtain ⟨r1, r2, rfl⟩ := List.append_of_mem hm
    have hpp := List.pairwise_append.1 (List.pairwise_append.1 pa).1
    obtain ⟨o, d, H, nx, ho, hstep, hrest⟩ := zjo hoi r1 r2 st (fun j hj oj hoj => zch (hpp.2.2 j hj i (by simp)) (z6g hi (hun j (by simp [hj]))) hoj hoi) hrun
    have sub : (r1 ++ r2).Sublist (r1 ++ i :: r2) := List.Sublist.append (List.Sublist.refl _) (List.sublist_cons_self _ _)
    have hR1' : Rest ops (listed.setIfInBounds i true) ((r1 ++ r2) ++ a :: s1) := by
     have h := hR1
     rw [List.append_assoc, List.cons_append] at h
     rw [List.append_assoc]; exact h.step
    have hR2' : Rest ops (listed.setIfInBounds i true) ((r1 ++ r2) ++ b :: s2) := by
     have h := hR2
     rw [List.append_assoc, List.cons_append] at h
     rw [List.append_assoc]; exact h.step
    refine z42 ho (hdst i o ho) hf hstep fun s' a' w' hf' hs' => ih (r1 ++ r2) _ _ s' a' w' ?_ ?_ (by simpa using hsz) hR1' hR2' (pa.sublist (List.Sublist.append sub (List.Sublist.refl _))) (pb.sublist (List.Sublist.append sub (List.Sublist.refl _))) (p1.sublist (List.Sublist.append sub (List.Sublist.refl _))) (p2.sublist (List.Sublist.append sub (List.Sublist.refl _))) hrest hf' fun st2 s2 a2 w2 hK2 hf2 hs2 => O st2 s2 a2 w2 hK2 hf2 (hs'.trans hs2)
    ·simp only [List.length_append, List.length_cons] at hl1 ⊢; omega
    ·simp only [List.length_append, List.length_cons] at hl2 ⊢; omega
   ·have hpp := List.pairwise_append.1 pa
    have hrun2 : z5e P own ops K (pre ++ i :: s1) st := by
     rw [z2d]; exact z47 (fun _ h => h.1) _ _ hrun
    obtain ⟨o, d, H, nx, ho, hstep, hrest⟩ := zjo hoi pre s1 st (fun j hj oj hoj => zch (hpp.2.2 j hj i (by simp)) (z6g hi (hun j hj)) hoj hoi) hrun2
    refine z42 ho (hdst i o ho) hf hstep fun s' a' w' hf' hs' => zmb hlow hdst fuel (pre ++ s1) _ _ s' a' w' ?_ (by simpa using hsz) hR1.step p1 hrest hf' fun st2 s2 a2 w2 hK2 hf2 hs2 => O st2 s2 a2 w2 hK2 hf2 (hs'.trans hs2)
    simp only [List.length_append]; omega
   ·rcases hs1 i hm with h | h | h
    ·exact toB h
    ·rw [z6g hi hua] at h; cases h
    ·rw [z6g hi hub] at h; cases h
def twoOK (own : List Nat) (ops : Array Oper) (pre : List Nat) (a b : Nat) (s1 s2 : List Nat) : Bool :=
 zhd ops && (s1.all fun i => i == b || zaf ops a i || zaf ops b i) && s1.contains b && s2.contains a &&
 pwB (okP own ops) (pre ++ [a]) && pwB (okP own ops) (pre ++ [b]) && pwB (okP own ops) (pre ++ s1) && pwB (okP own ops) (pre ++ s2) &&
 pwB (fun j i => j != i) (pre ++ a :: s1) && pwB (fun j i => j != i) (pre ++ b :: s2) &&
 ((pre ++ a :: s1).all fun i => decide (i < ops.size)) && ((pre ++ b :: s2).all fun i => decide (i < ops.size)) &&
 decide ((pre ++ a :: s1).length = ops.size) && decide ((pre ++ b :: s2).length = ops.size) && ((List.range ops.size).all fun i => (pre ++ a :: s1).contains i && (pre ++ b :: s2).contains i)
theorem zyu {N id : Nat} {Q : Exit -> St -> Prop} {st : St} (hm : P.follows .mixedOrders = true) (hdst : ∀ o ∈ ops.toList, z31 N o = true) (pre : List Nat) (a b : Nat) (s1 s2 : List Nat) (hok : twoOK own ops pre a b s1 s2 = true)
  (h : zbw P own ops (Q .normal) (.fork pre (.run (a :: s1)) (.run (b :: s2))) st) : Sem P N (.region id ops true) Q st := by
 intro s0 w0 s c w hf hs
 obtain ⟨hds, hdr⟩ := z6k (w' := { w with drawn := w.drawn + 1 }) hf.heap rfl rfl rfl rfl
 have hf' : Fr P N st s c { w with drawn := w.drawn + 1 } := ⟨hf.H, hf.nx, hf.size, hf.defers, hf.tmps, hdr⟩
 have hdst2 : ∀ (i : Nat) o, ops[i]? = some o -> z31 N o = true := fun i o ho => hdst o (by
  obtain ⟨h1, h2⟩ := (Array.getElem?_eq_some_iff.1 ho)
  rw [<- h2]; exact (Array.mem_toList_iff.2 (Array.getElem_mem h1)))
 simp only [twoOK, Bool.and_eq_true, List.all_eq_true, Bool.or_eq_true, beq_iff_eq, decide_eq_true_eq, List.contains_iff_mem, List.mem_range] at hok
 obtain ⟨⟨⟨⟨⟨⟨⟨⟨⟨⟨⟨⟨⟨⟨k1, k2⟩, k3⟩, k4⟩, k5⟩, k6⟩, k7⟩, k8⟩, k9⟩, k10⟩, k11⟩, k12⟩, k13⟩, k14⟩, k15⟩ := hok
 have nd : ∀ {L : List Nat}, pwB (fun j i => j != i) L = true -> L.Nodup := fun h => (z8c h).imp fun h => by simpa using h
 have gl : ∀ i, i < ops.size -> (Array.replicate ops.size false).getD i true = false := fun i hi => by
  simp [Array.getD_eq_getD_getElem?, hi]
 have hR1 : Rest ops (Array.replicate ops.size false) (pre ++ a :: s1) := ⟨nd k9, fun i => ⟨fun hi => ⟨k11 i hi, gl i (k11 i hi)⟩, fun hi => (k15 i hi.1).1⟩⟩
 have hR2 : Rest ops (Array.replicate ops.size false) (pre ++ b :: s2) := ⟨nd k10, fun i => ⟨fun hi => ⟨k12 i hi, gl i (k12 i hi)⟩, fun hi => (k15 i hi.1).2⟩⟩
 simp only [List.length_append, List.length_cons] at k13 k14
 exact wp_region_any hm (zyt (Q := zy6 P N s0 w0 Q) k1 hdst2 (fun i hi => by rcases k2 i hi with (h | h) | h; (· exact .inl h); (· exact .inr (.inl h)); (· exact .inr (.inr h))) k3 k4 ops.size pre _ st s c _ (by omega) (by omega) (by simp) hR1 hR2 (z8c k5) (z8c k6) (z8c k7) (z8c k8) h hf' fun st' s' a' w' hK hf2 hs2 => ⟨st', s', hK, hf2, hs.trans (hds.trans hs2)⟩)
end
end Go.Proofs.YtfechgagcgbldaaDoor.Abs
namespace Go.Proofs.YtfechgagcgbldaaDoor.Abs
theorem zra {P : Program} {st : St} {id j n : Nat} {e : TypeId} {cs : List D} (hH : st.H id = some (.row e n cs)) (ho : zjt P e = true) (hp : pureD.pureL cs = true) (hj : st.t j = .osl id n) :
  SealTo P st ((st.withH (z0u st.H id none) st.nx).put (some j) (.rsl false (z00 P e) (z1e (z02 P e) (z00 P e) n cs))) := by
 intro N s a w hf
 have hid : s.H id = some (.row e n cs) := by rw [hf.H]; exact hH
 obtain ⟨g1, g2⟩ := zdk hf.heap (id := id) (by rw [hid]; simp)
 refine ⟨s.shut1 w id, ⟨?_, hf.nx, hf.size, hf.defers, fun i => ?_, g2⟩, g1⟩
 ·show z0u s.H id none = _
  rw [hf.H]; rfl
 ·by_cases hij : i = j
  ·subst hij
   have ht := hf.tmps i
   rw [hj] at ht
   have hs : zcp P (.osl id n, s.H, s.nx) = some (.rsl false (z00 P e) (z1e (z02 P e) (z00 P e) n cs), z0u s.H id none, s.nx) := by
    unfold zcp
    simp only [hid]
    rw [if_pos ⟨trivial, ho, hp⟩]
   obtain ⟨s2, _, _, _, _, hr2, he2⟩ := zdl hf.heap rfl rfl ht hs
   have he3 := he2 id n rfl
   subst he3
   show rel _ (zt1 st.t i _ i) _
   rw [show zt1 st.t i (.rsl false (z00 P e) (z1e (z02 P e) (z00 P e) n cs)) i = _ from if_pos rfl]
   exact hr2
  ·show rel _ (zt1 st.t j _ i) _
   rw [show zt1 st.t j (.rsl false (z00 P e) (z1e (z02 P e) (z00 P e) n cs)) i = st.t i from if_neg hij]
   exact rel.later g1.later _ _ (hf.tmps i)
end Go.Proofs.YtfechgagcgbldaaDoor.Abs
namespace Go.Proofs.YtfechgagcgbldaaDoor
open _root_.Go.Proofs.Tryd
section
open Abs Facts Tr
attribute [local irreducible] awp
set_option maxRecDepth 100000
namespace Abs
theorem Sem.cutS {P : Program} {N : Nat} {x y : Code} {Q : Exit -> St -> Prop} {st : St} (I : St -> Prop) (h1 : Sem P N x (zky (fun st => ∃ st', SealTo P st st' /\ I st') Q) st) (h2 : ∀ st, I st -> Sem P N y Q st) : Sem P N (.seq x y) Q st :=
 Sem.seq (Sem.mono h1 fun e st h => by
  cases e with
  | normal => obtain ⟨st', hs, hI⟩ := h; exact Sem.seal st' hs (h2 st' hI)
  | _ => exact h)
end Abs
namespace Tr
theorem zll (s : Idv -> Bool) (bs : List Idv) (x : T) : ∀ (l : List T) (i : Nat), prK s bs (l ++ [x]) i = prK s bs l i ++ if s x.id = true then [(i + l.length, bs.idxOf x.id)] else []
 | [], i => by
  simp only [List.nil_append, prK, List.length_nil, Nat.add_zero]
 | y :: l, i => by
  rw [List.cons_append, prK, prK, zll s bs x l (i + 1)]
  have e : i + 1 + l.length = i + (y :: l).length := by simp; omega
  rw [e]
  split <;> rfl
end Tr
theorem zlm (i : Idv) : ∀ l : List T, z63 (fun y => decide (y.id = i)) l = (l.map T.id).idxOf i
 | [] => rfl
 | y :: l => by
  have ih := zlm i l
  unfold z63 at ih ⊢
  rw [List.map_cons, List.idxOf_cons, List.takeWhile_cons]
  by_cases h : y.id = i
  ·simp [h]
  ·have hb : (y.id == i) = false := by simpa using h
   simp [h, hb, ih]
theorem zq1 (x k : T) : PC prog 45 [z1n k, .rptr (z1n x)] (.bool (decide (k.id = x.id))) := by
 refine z3l 1 (by simp only [pureD.pureL, z0n, pureD, Bool.and_self]) rfl (z2o [] func45 rfl (by decide +kernel) rfl ?_)
 show awp _ _ (Code.seq _ _) _ _
 repeat' (first | ((refine zqh fun K hK => ?_); (simp (disch := omega) only [go_sem, Nat.reduceBEq, ↓reduceIte, reduceCtorEq, Nat.reduceAdd, Nat.reduceLeDiff])) | refine zqn ?_ | refine zqu (by simp only [go_sem]; rfl) rfl ?_ | (refine hK _ ?_; clear hK K))
 exact z04 rfl
theorem z9m {A : T} (hn : (idsT A).Nodup) (i : Idv) : (z23 i A = true /\ (findR i A).1 ∈ nodesT A /\ ∃ n, z2y prog 23 (.agg [.int .i64 i.act, .int .i64 i.item, .int .i64 i.n]) (mapI z1n ((nodesT A).map unP)) = some (some (n, .agg (z08 (findR i A).1)))) \/
  (z23 i A = false /\ (findR i A).1 = T.zero /\ z2y prog 23 (.agg [.int .i64 i.act, .int .i64 i.item, .int .i64 i.n]) (mapI z1n ((nodesT A).map unP)) = some none) := by
 have O : ((nodesT A).map unP).map (·.1) = idsT A := by rw [List.map_map]; rfl
 have hg := zcb z1n ((nodesT A).map unP) i
 rw [O] at hg
 cases h : z23 i A with
 | true =>
  have h1 := z2i (id := i) (u := A) h
  have h2 := zag (id := i) (t := A) h
  have h3 : (i, (findR i A).1) ∈ (nodesT A).map unP := List.mem_map.2 ⟨_, h1, by unfold unP; rw [h2]⟩
  rw [if_pos (by rw [z1q, decide_eq_true_eq] at h; exact h), z9p (by rw [O]; exact hn) h3] at hg
  exact .inl ⟨rfl, h1, _, hg⟩
 | false =>
  rw [if_neg (by rw [z1q, decide_eq_false_iff_not] at h; exact h)] at hg
  refine .inr ⟨rfl, ?_, hg⟩
  unfold z23 findR at h
  unfold findR
  split at h
  ·cases h
  ·rfl
theorem zq2 (x y : T) (r : TT) (j0 j j2 b : Nat) {H : HM} {nx : Nat} (hb : b < nx) (hHb : H b = some (.box 57 [.mp j0, .mp j, .mp j2]))
  (h : ∀ H2 n2, nx <= n2 -> z33 nx H H2 -> RC prog 23 [.agg [.mp j0, .mp j, .mp j2], z1n y] H2 n2 (z8i r)) :
  RC prog 48 [z1n x, z1n y, .ptr b 0] H nx (z8i r) := by
 have hq := z03 hb
 refine zx8 (z2t _) (z2o [] func48 rfl (by decide +kernel) rfl ?_)
 show awp _ _ (Code.seq _ _) _ _
 rw [show Tryd.f48.results.toList = [.cell 5 33] from rfl]
 repeat' (first | ((refine zqh fun K hK => ?_); (simp (disch := omega) only [go_sem, Nat.reduceBEq, ↓reduceIte, Nat.reduceAdd, Nat.reduceLeDiff, hq, hHb])) | (refine hK _ ?_; clear hK K))
 refine z34 (h _ _ ?_ ?_) ?_
 ·(simp (disch := omega) only [go_sem])
  all_goals omega
 ·intro id hid
  (simp (disch := omega) only [go_sem])
  simp (disch := omega) only [z0c]
 (try (simp (disch := omega) only [go_sem, Nat.reduceBEq, ↓reduceIte, Nat.reduceAdd, Nat.reduceLeDiff, hq])); repeat' (first | refine zqn ?_ | refine zqu (by (simp (disch := omega) only [go_sem, Nat.reduceBEq, ↓reduceIte, Nat.reduceLeDiff, hq]); rfl) rfl ?_ | (refine hK _ ?_; clear hK K))
 refine ⟨rfl, fun id hid => ?_⟩
 (simp (disch := omega) only [go_sem])
 simp (disch := omega) only [z0c]
set_option maxHeartbeats 16000000 in
theorem zu4 (A B : T) (ms : List Idv) (hbk : Books A B (fun i => decide (i ∈ ms))) (hA : szB A = true) (hB : szB B = true) (j0 j j2 : Nat) : ∀ u : T, u ∈ nodesT B -> szB u = true -> ∀ H nx, j0 < nx -> j < nx -> j2 < nx -> H j0 = some (zb6 A) -> H j = some (zb6 B) -> H j2 = some (.map (setI ms)) ->
  RC prog 23 [.agg [.mp j0, .mp j, .mp j2], z1n u] H nx (z8i (z4g A B (fun i => decide (i ∈ ms)) u)) := by
 refine z6x fun u ih hu hs H nx hj0 hj hj2 hHj0 hHj hHj2 => ?_
 obtain ⟨h0, h1, g1, h2, g2, h3, h4⟩ := (z4i u).1 hs
 obtain ⟨x, hx⟩ : ∃ x, x = (findR u.id A).1 := ⟨_, rfl⟩
 have xs : szB x = true := by
  rcases z9m hbk.na u.id with ⟨_, h, _⟩ | ⟨_, h, _⟩
  ·rw [hx]; exact zg3 A hA _ h
  ·rw [hx, h]; decide +kernel
 obtain ⟨x0, x1, y1, x2, y2, x3, x4⟩ := (z4i x).1 xs
 have c1 := z83 x.head u.head x1 h1
 have c2 := z83 x.words u.words x2 h2
 unfold z0w at c1 c2
 have hr0 := z03 hj0
 have hr05 := z9u hj0
 have hr06 := zck hj0
 have hr := z03 hj
 have hr5 := z9u hj
 have hr6 := zck hj
 have hr2 := z03 hj2
 have hr25 := z9u hj2
 have hr26 := zck hj2
 have hfm := zbe u.id ms
 refine zmr (k := 4) (z2t _) ?_
 unfold zb6 at hHj0 hHj
 refine z9v func23 rfl (by decide +kernel) (by simp [ntmps23]) ?_
 rw [show Tryd.f23.results.toList = [.cell 4 33] from rfl]
 rw [zd0, <- hx]
 have hbox : ∀ st : St, st.H (nx + 3) = some (.box 27 [.int .i64 0, .int .i64 0, .int .i64 0, .int .i64 0, .str ByteArray.empty, .nil, .nil, .nil]) -> SealTo prog st { st with H := z0u st.H (nx + 3) (some (.box 27 (z08 T.zero))) } := fun st h => zvr h (by rw [z0v]; exact ⟨Le.refl _, Le.refl _, Le.refl _, Le.refl _, Le.refl _, Le.nil 4, Le.nil 4, Le.nil 8, trivial⟩)
 obtain ⟨mv, hmv⟩ : ∃ mv, mv = decide (u.id ∈ ms) := ⟨_, rfl⟩
 refine Sem.seq (Sem.walk (own := []) z5z (by decide +kernel) ?_)
 repeat' (first | ((refine zqr fun K hK => ?_); (simp (disch := omega) only [go_sem, Nat.reduceBEq])) | refine zqv ?_ | (refine hK _ ?_; clear hK K))
 (refine Sem.cutS (fun st => st.t 2 = .ptr nx 0 /\ st.t 3 = .ptr (nx + 1) 0 /\ st.t 4 = .ptr (nx + 2) 0 /\ st.t 5 = .ptr (nx + 3) 0 /\ st.t 6 = .bool (z23 u.id A) /\ st.H (nx) = some (.box 57 [.mp j0, .mp j, .mp j2]) /\ st.H (nx + 1) = some (.box 27 (z08 u)) /\ st.H (nx + 2) = some (.box 33 [.int .i64 0, .int .i64 0, .int .i64 0, .int .i64 0, .int .i64 0, .str ByteArray.empty, .str ByteArray.empty, .bool false, .nil, .nil, .nil]) /\ st.H (nx + 3) = some (.box 27 (z08 x)) /\ st.nx = nx + 4 /\ (∀ id, id < nx -> st.H id = H id)) ?_ ?_); rotate_left; (rintro st ⟨p2, p3, p4, p5, p6, pHnx, pHnx1, pHnx2, pHnx3, pnx, pp0⟩); rotate_left
 ·refine Sem.walk (own := []) z5z (by decide +kernel) ?_
  rcases z9m hbk.na u.id with ⟨ha, hxn, n, hf⟩ | ⟨ha, hx0, hf⟩
  ·rw [<- hx] at hf hxn
   repeat' (first | ((refine zqr fun K hK => ?_); (simp (disch := omega) only [go_sem, Nat.reduceBEq, ↓reduceIte, reduceCtorEq, Nat.reduceAdd, Nat.reduceLeDiff, hr0, hHj0, hf])) | refine zqv ?_ | (refine hK _ ?_; clear hK K))
   refine ⟨_, SealTo.refl _, ?_⟩
   (simp (disch := omega) only [go_sem, Nat.reduceBEq, hr0, ha])
   exact fun id hid => by simp (disch := omega) only [z0c]
  ·rw [<- hx] at hx0
   subst hx0
   repeat' (first | ((refine zqr fun K hK => ?_); (simp (disch := omega) only [go_sem, Nat.reduceBEq, ↓reduceIte, reduceCtorEq, Nat.reduceAdd, Nat.reduceLeDiff, hr0, hHj0, hf])) | refine zqv ?_ | (refine hK _ ?_; clear hK K))
   refine ⟨_, hbox _ (by (simp (disch := omega) only [go_sem, hr0])), ?_⟩
   (simp (disch := omega) only [go_sem, Nat.reduceBEq, hr0, ha])
   exact fun id hid => by simp (disch := omega) only [z0c]
 have hj0x : st.H j0 = some (.map (mapI z1n ((nodesT A).map unP))) := by rw [pp0 _ hj0]; exact hHj0
 have hjx : st.H j = some (.map (mapI z1n ((nodesT B).map unP))) := by rw [pp0 _ hj]; exact hHj
 have hj2x : st.H j2 = some (.map (setI ms)) := by rw [pp0 _ hj2]; exact hHj2
 (refine Sem.cutS (fun st => st.t 2 = .ptr nx 0 /\ st.t 3 = .ptr (nx + 1) 0 /\ st.t 4 = .ptr (nx + 2) 0 /\ st.t 5 = .ptr (nx + 3) 0 /\ st.t 6 = .bool (z23 u.id A) /\ st.H (nx) = some (.box 57 [.mp j0, .mp j, .mp j2]) /\ st.H (nx + 1) = some (.box 27 (z08 u)) /\ st.H (nx + 2) = some (.box 33 [.int .i64 0, .int .i64 0, .int .i64 0, .int .i64 0, .int .i64 0, .str ByteArray.empty, .str ByteArray.empty, .bool false, .nil, .nil, .nil]) /\ st.H (nx + 3) = some (.box 27 (z08 x)) /\ st.t 7 = .ptr (nx + 4) 0 /\ st.H (nx + 4) = some (.box 33 [.int .i64 0, .int .i64 u.kind, .int .i64 u.id.act, .int .i64 u.id.item, .int .i64 u.id.n, .str u.label, .str ByteArray.empty, .bool mv, z0w (z3n (txt x.head) (txt u.head)), z0w (z3n (txt x.words) (txt u.words)), .nil]) /\ st.nx = nx + 5 /\ (∀ id, id < nx -> st.H id = H id)) ?_ ?_); rotate_left; (rintro st ⟨q2, q3, q4, q5, q6, qHnx, qHnx1, qHnx2, qHnx3, q7, qHnx4, qnx, qp0⟩); rotate_left
 ·have hbr : ∃ o, z2y prog 23 (.agg [.int .i64 u.id.act, .int .i64 u.id.item, .int .i64 u.id.n]) (setI ms) = some o /\ ((∃ n, o = some (n, .bool true) /\ mv = true) \/ (o = none /\ mv = false)) := by
   by_cases hm : u.id ∈ ms
   ·rw [if_pos hm] at hfm; exact ⟨_, hfm, .inl ⟨_, rfl, by rw [hmv, decide_eq_true hm]⟩⟩
   ·rw [if_neg hm] at hfm; exact ⟨_, hfm, .inr ⟨rfl, by rw [hmv, decide_eq_false hm]⟩⟩
  obtain ⟨o, hfo, ho⟩ := hbr
  refine zyu (own := [8000000, 3000023, 3000025, 3000027, 3000029, 3000031, 5000032, 3000034, 3000036, 5000037, 3000039, 3000041]) z5z (by decide +kernel) [0, 1, 2, 3, 4, 5, 6, 7, 8, 9, 10, 11, 12, 13, 14, 15, 16, 17, 18, 19] 20 22 [21, 22, 23] [20, 21, 23] (by decide +kernel) ?_
  refine zah ?_ rfl
  (simp (disch := omega) only [go_sem, Nat.reduceBEq, Nat.reduceEqDiff, ↓reduceIte, reduceCtorEq, Nat.reduceAdd, Nat.reduceLeDiff, p3, p5, pHnx1, pHnx3, pnx, z8f, zop, List.map_cons, List.map_nil, z1x])
  refine zqt c1 ?_
  (simp (disch := omega) only [go_sem, Nat.reduceBEq, Nat.reduceEqDiff, ↓reduceIte, reduceCtorEq, Nat.reduceAdd, p3, p5, pHnx1, pHnx3, pnx, List.map_cons, List.map_nil, z1x])
  refine zqt c2 ?_
  (simp (disch := omega) only [go_sem, Nat.reduceBEq, Nat.reduceEqDiff, ↓reduceIte, reduceCtorEq, Nat.reduceAdd, Nat.reduceLeDiff, p2, p3, pHnx, pHnx1, pnx])
  rcases ho with ⟨n, rfl, rfl⟩ | ⟨rfl, rfl⟩
  ·refine ⟨?_, ?_⟩
   ·refine z4v ?_ rfl
    (simp (disch := omega) only [go_sem, Nat.reduceBEq, Nat.reduceEqDiff, ↓reduceIte, Nat.reduceAdd, Nat.reduceLeDiff, pnx, z8f, zop, List.map_cons, List.map_nil, hfo, hj2x])
    refine ⟨_, SealTo.refl _, ?_⟩
    (simp (disch := omega) only [go_sem, Nat.reduceBEq, p2, p3, p4, p5, p6, pHnx, pHnx1, pHnx2, pHnx3, hr05, z0w])
    exact fun id hid => by simp (disch := omega) only [z0c]; exact pp0 id hid
   ·refine z4v ?_ rfl
    (simp (disch := omega) only [go_sem, Nat.reduceBEq, Nat.reduceEqDiff, ↓reduceIte, Nat.reduceAdd, Nat.reduceLeDiff, pnx, hr25, z8f, zop, List.map_cons, List.map_nil, hfo, hj2x])
    refine ⟨_, SealTo.refl _, ?_⟩
    (simp (disch := omega) only [go_sem, Nat.reduceBEq, p2, p3, p4, p5, p6, pHnx, pHnx1, pHnx2, pHnx3, hr05, z0w])
    exact fun id hid => by simp (disch := omega) only [z0c]; exact pp0 id hid
  ·refine ⟨?_, ?_⟩
   ·refine z4v ?_ rfl
    (simp (disch := omega) only [go_sem, Nat.reduceBEq, Nat.reduceEqDiff, ↓reduceIte, Nat.reduceAdd, Nat.reduceLeDiff, pnx, z8f, zop, List.map_cons, List.map_nil, hfo, hj2x])
    refine ⟨_, SealTo.refl _, ?_⟩
    (simp (disch := omega) only [go_sem, Nat.reduceBEq, p2, p3, p4, p5, p6, pHnx, pHnx1, pHnx2, pHnx3, hr05, z0w])
    exact fun id hid => by simp (disch := omega) only [z0c]; exact pp0 id hid
   ·refine z4v ?_ rfl
    (simp (disch := omega) only [go_sem, Nat.reduceBEq, Nat.reduceEqDiff, ↓reduceIte, Nat.reduceAdd, Nat.reduceLeDiff, pnx, hr25, z8f, zop, List.map_cons, List.map_nil, hfo, hj2x])
    refine ⟨_, SealTo.refl _, ?_⟩
    (simp (disch := omega) only [go_sem, Nat.reduceBEq, p2, p3, p4, p5, p6, pHnx, pHnx1, pHnx2, pHnx3, hr05, z0w])
    exact fun id hid => by simp (disch := omega) only [z0c]; exact pp0 id hid
 obtain ⟨S, hS⟩ : ∃ S : Int, S = if z23 u.id A = true /\ mv = false then 0 else 1 := ⟨_, rfl⟩
 obtain ⟨W, hW⟩ : ∃ W, W = if z23 u.id A = true /\ x.label ≠ u.label then x.label else ByteArray.empty := ⟨_, rfl⟩
 refine Sem.walk (own := [8]) z5z (by decide +kernel) ?_
 refine zqj ?_
 (refine z9q (fun st => st.t 2 = .ptr nx 0 /\ st.t 3 = .ptr (nx + 1) 0 /\ st.t 4 = .ptr (nx + 2) 0 /\ st.t 5 = .ptr (nx + 3) 0 /\ st.t 6 = .bool (z23 u.id A) /\ st.H (nx) = some (.box 57 [.mp j0, .mp j, .mp j2]) /\ st.H (nx + 1) = some (.box 27 (z08 u)) /\ st.H (nx + 2) = some (.box 33 [.int .i64 0, .int .i64 0, .int .i64 0, .int .i64 0, .int .i64 0, .str ByteArray.empty, .str ByteArray.empty, .bool false, .nil, .nil, .nil]) /\ st.H (nx + 3) = some (.box 27 (z08 x)) /\ st.t 7 = .ptr (nx + 4) 0 /\ st.H (nx + 4) = some (.box 33 [.int .i64 S, .int .i64 u.kind, .int .i64 u.id.act, .int .i64 u.id.item, .int .i64 u.id.n, .str u.label, .str ByteArray.empty, .bool mv, z0w (z3n (txt x.head) (txt u.head)), z0w (z3n (txt x.words) (txt u.words)), .nil]) /\ st.nx = nx + 5 /\ (∀ id, id < nx -> st.H id = H id)) ?_ ?_); rotate_left; (rintro st ⟨r2, r3, r4, r5, r6, rHnx, rHnx1, rHnx2, rHnx3, r7, rHnx4, rnx, rp0⟩); rotate_left
 ·rcases Bool.eq_false_or_eq_true (z23 u.id A) with ha | ha <;> rcases Bool.eq_false_or_eq_true mv with hm2 | hm2
  ·rw [ha, hm2] at hS
   repeat' (first | ((first | refine zqh fun K hK => ?_ | refine zqr fun K hK => ?_); (simp (disch := omega) only [go_sem, Nat.reduceBEq, ↓reduceIte, reduceCtorEq, Nat.reduceAdd, Nat.reduceLeDiff, Nat.reduceLT, q6, q7, qHnx4, qnx, ha, hm2])) | ((refine zqm _ rfl (fun hc => ?_) (fun hc => ?_)) <;> (first | (cases hc; done) | ((try simp only [] at hc); (try omega)))) | refine zqv ?_ | (refine hK _ ?_; clear hK K))
   (simp (disch := omega) only [go_sem, Nat.reduceBEq, ↓reduceIte, reduceCtorEq, q2, q3, q4, q5, q6, qHnx, qHnx1, qHnx2, qHnx3, q7, qHnx4, true_and, hr05, ha, hm2, hS])
   first | exact qp0 | exact fun id hid => by simp (disch := omega) only [z0c]; exact qp0 id hid
  ·rw [ha, hm2] at hS
   repeat' (first | ((refine zqh fun K hK => ?_); (simp (disch := omega) only [go_sem, Nat.reduceBEq, ↓reduceIte, reduceCtorEq, Nat.reduceAdd, q6, q7, qHnx4, ha, hm2])) | ((refine zqm _ rfl (fun hc => ?_) (fun hc => ?_)) <;> (first | (cases hc; done) | ((try simp only [] at hc); (try omega)))) | refine zqk ?_ | refine zqv ?_ | (refine hK _ ?_; clear hK K))
   (simp (disch := omega) only [go_sem, Nat.reduceBEq, ↓reduceIte, q2, q3, q4, q5, q6, qHnx, qHnx1, qHnx2, qHnx3, q7, qHnx4, qnx, true_and, and_self, ha, hm2, hS])
   first | exact qp0 | exact fun id hid => by simp (disch := omega) only [z0c]; exact qp0 id hid
  ·rw [ha, hm2] at hS
   repeat' (first | ((first | refine zqh fun K hK => ?_ | refine zqr fun K hK => ?_); (simp (disch := omega) only [go_sem, Nat.reduceBEq, ↓reduceIte, reduceCtorEq, Nat.reduceAdd, Nat.reduceLeDiff, Nat.reduceLT, q6, q7, qHnx4, qnx, ha, hm2])) | ((refine zqm _ rfl (fun hc => ?_) (fun hc => ?_)) <;> (first | (cases hc; done) | ((try simp only [] at hc); (try omega)))) | refine zqv ?_ | (refine hK _ ?_; clear hK K))
   (simp (disch := omega) only [go_sem, Nat.reduceBEq, ↓reduceIte, reduceCtorEq, q2, q3, q4, q5, q6, qHnx, qHnx1, qHnx2, qHnx3, q7, qHnx4, true_and, and_self, hr05, ha, hm2, hS])
   first | exact qp0 | exact fun id hid => by simp (disch := omega) only [z0c]; exact qp0 id hid
  ·rw [ha, hm2] at hS
   repeat' (first | ((first | refine zqh fun K hK => ?_ | refine zqr fun K hK => ?_); (simp (disch := omega) only [go_sem, Nat.reduceBEq, ↓reduceIte, reduceCtorEq, Nat.reduceAdd, Nat.reduceLeDiff, Nat.reduceLT, q6, q7, qHnx4, qnx, ha, hm2])) | ((refine zqm _ rfl (fun hc => ?_) (fun hc => ?_)) <;> (first | (cases hc; done) | ((try simp only [] at hc); (try omega)))) | refine zqv ?_ | (refine hK _ ?_; clear hK K))
   (simp (disch := omega) only [go_sem, Nat.reduceBEq, ↓reduceIte, q2, q3, q4, q5, q6, qHnx, qHnx1, qHnx2, qHnx3, q7, qHnx4, true_and, and_true, hr05, ha, hm2, hS])
   first | exact qp0 | exact fun id hid => by simp (disch := omega) only [z0c]; exact qp0 id hid
 (refine z9q (fun st => st.t 2 = .ptr nx 0 /\ st.t 3 = .ptr (nx + 1) 0 /\ st.t 4 = .ptr (nx + 2) 0 /\ st.t 5 = .ptr (nx + 3) 0 /\ st.t 6 = .bool (z23 u.id A) /\ st.H (nx) = some (.box 57 [.mp j0, .mp j, .mp j2]) /\ st.H (nx + 1) = some (.box 27 (z08 u)) /\ st.H (nx + 2) = some (.box 33 [.int .i64 0, .int .i64 0, .int .i64 0, .int .i64 0, .int .i64 0, .str ByteArray.empty, .str ByteArray.empty, .bool false, .nil, .nil, .nil]) /\ st.H (nx + 3) = some (.box 27 (z08 x)) /\ st.t 7 = .ptr (nx + 4) 0 /\ st.H (nx + 4) = some (.box 33 [.int .i64 S, .int .i64 u.kind, .int .i64 u.id.act, .int .i64 u.id.item, .int .i64 u.id.n, .str u.label, .str W, .bool mv, z0w (z3n (txt x.head) (txt u.head)), z0w (z3n (txt x.words) (txt u.words)), .nil]) /\ st.t 8 = .osl (nx + 5) 0 /\ st.H (nx + 5) = some (.row 90 0 []) /\ st.nx = nx + 6 /\ (∀ id, id < nx -> st.H id = H id)) ?_ ?_); rotate_left; (rintro st ⟨v2, v3, v4, v5, v6, vHnx, vHnx1, vHnx2, vHnx3, v7, vHnx4, v8, vHnx5, vnx, vp0⟩); rotate_left
 ·rcases Bool.eq_false_or_eq_true (z23 u.id A) with ha | ha
  ·by_cases hl : x.label = u.label
   ·rw [if_neg (by rw [hl]; simp)] at hW
    repeat' (first | refine zqj ?_ | ((first | refine zqh fun K hK => ?_ | refine zqr fun K hK => ?_); (simp (disch := omega) only [go_sem, Nat.reduceBEq, ↓reduceIte, reduceCtorEq, Nat.reduceAdd, r3, r5, r6, rHnx1, rHnx3, rnx, ha, hl])) | (refine zqd _ rfl ?_ ?_ <;> intro hc <;> (first | (cases hc; done) | ((try simp only [] at hc); (try omega)))) | refine zqb ?_ | refine zqv ?_ | (refine hK _ ?_; clear hK K))
    (simp (disch := omega) only [go_sem, Nat.reduceBEq, r2, r3, r4, r5, r6, rHnx, rHnx1, rHnx2, rHnx3, r7, rHnx4, true_and, hr06, ha, hW])
    first | exact rp0 | exact fun id hid => by simp (disch := omega) only [z0c]; exact rp0 id hid
   ·rw [if_pos ⟨ha, hl⟩] at hW
    repeat' (first | refine zqj ?_ | ((first | refine zqh fun K hK => ?_ | refine zqr fun K hK => ?_); (simp (disch := omega) only [go_sem, Nat.reduceBEq, ↓reduceIte, reduceCtorEq, Nat.reduceAdd, Nat.reduceLeDiff, Nat.reduceLT, r3, r5, r6, rHnx1, rHnx3, r7, rHnx4, rnx, ha, hl])) | (refine zqd _ rfl ?_ ?_ <;> intro hc <;> (first | (cases hc; done) | ((try simp only [] at hc); (try omega)))) | refine zqv ?_ | (refine hK _ ?_; clear hK K))
    (simp (disch := omega) only [go_sem, Nat.reduceBEq, r2, r3, r4, r5, r6, rHnx, rHnx1, rHnx2, rHnx3, r7, rHnx4, true_and, hr05, hr06, ha, hW])
    first | exact rp0 | exact fun id hid => by simp (disch := omega) only [z0c]; exact rp0 id hid
  ·rw [if_neg (by rw [ha]; simp)] at hW
   repeat' (first | refine zqj ?_ | ((first | refine zqh fun K hK => ?_ | refine zqr fun K hK => ?_); (simp (disch := omega) only [go_sem, Nat.reduceBEq, ↓reduceIte, r6, rnx, ha])) | (refine zqd _ rfl ?_ ?_ <;> intro hc <;> (first | (cases hc; done) | ((try simp only [] at hc); (try omega)))) | refine zqb ?_ | refine zqv ?_ | (refine hK _ ?_; clear hK K))
   (simp (disch := omega) only [go_sem, Nat.reduceBEq, r2, r3, r4, r5, r6, rHnx, rHnx1, rHnx2, rHnx3, r7, rHnx4, true_and, hr06, ha, hW])
   first | exact rp0 | exact fun id hid => by simp (disch := omega) only [z0c]; exact rp0 id hid
 have hj0v : st.H j0 = some (.map (mapI z1n ((nodesT A).map unP))) := by rw [vp0 _ hj0]; exact hHj0
 have hjv : st.H j = some (.map (mapI z1n ((nodesT B).map unP))) := by rw [vp0 _ hj]; exact hHj
 have hj2v : st.H j2 = some (.map (setI ms)) := by rw [vp0 _ hj2]; exact hHj2
 obtain ⟨sB, hsB⟩ : ∃ sB, sB = stayB A B (fun i => decide (i ∈ ms)) := ⟨_, rfl⟩
 rw [<- hsB]
 obtain ⟨bs, hbs⟩ : ∃ bs, bs = u.kids.map T.id := ⟨_, rfl⟩
 have hxk : ∀ k ∈ x.kids, k ∈ nodesT A := by
  rcases z9m hbk.na u.id with ⟨_, hxn, _⟩ | ⟨_, hx0, _⟩
  ·rw [<- hx] at hxn
   exact fun k O => z12 A x hxn k (z0k O (z05 k))
  ·rw [hx, hx0]; exact fun k O => by cases O
 have hline : (x.kids.filter fun k => sB k.id).map T.id = (u.kids.filter fun k => sB k.id).map T.id := by
  rw [hsB]
  rcases z9m hbk.na u.id with ⟨ha, hxn, _⟩ | ⟨ha, hx0, _⟩
  ·have e1 : findR u.id A = (x, true) := by rw [hx]; exact Prod.ext rfl ha
   exact hbk.line u.id x u e1 (z0x hbk.nb hu rfl)
  ·have hk0 : x.kids = [] := by rw [hx, hx0]; rfl
   have h0 : u.kids.filter (fun k => stayB A B (fun i => decide (i ∈ ms)) k.id) = [] := List.filter_eq_nil_iff.2 fun k O h => by
    simp only [stayB, Bool.and_eq_true, Bool.not_eq_true'] at h
    have hA2 : k.id ∈ idsT A := by have := h.1; rw [z1q, decide_eq_true_eq] at this; exact this
    have hn : u.id ∉ idsT A := by rw [z1q, decide_eq_false_iff_not] at ha; exact ha
    have := hbk.offB u hu hn k O hA2
    rw [h.2.2] at this; cases this
   rw [hk0, h0]; rfl
 repeat' (first | refine zqj ?_ | ((refine zqh fun K hK => ?_); (simp (disch := omega) only [go_sem, Nat.reduceBEq, ↓reduceIte, reduceCtorEq, Nat.reduceAdd, v5, vHnx3])) | refine zqa ?_ | (refine hK _ ?_; clear hK K))
 (refine z8h (fun U st => ∃ (i : Nat) (ps : List (Nat × Nat)), U = x.kids.length - i /\ st.t 2 = .ptr nx 0 /\ st.t 3 = .ptr (nx + 1) 0 /\ st.t 4 = .ptr (nx + 2) 0 /\ st.t 5 = .ptr (nx + 3) 0 /\ st.H (nx) = some (.box 57 [.mp j0, .mp j, .mp j2]) /\ st.H (nx + 1) = some (.box 27 (z08 u)) /\ st.H (nx + 2) = some (.box 33 [.int .i64 0, .int .i64 0, .int .i64 0, .int .i64 0, .int .i64 0, .str ByteArray.empty, .str ByteArray.empty, .bool false, .nil, .nil, .nil]) /\ st.H (nx + 3) = some (.box 27 (z08 x)) /\ st.t 7 = .ptr (nx + 4) 0 /\ st.H (nx + 4) = some (.box 33 [.int .i64 S, .int .i64 u.kind, .int .i64 u.id.act, .int .i64 u.id.item, .int .i64 u.id.n, .str u.label, .str W, .bool mv, z0w (z3n (txt x.head) (txt u.head)), z0w (z3n (txt x.words) (txt u.words)), .nil]) /\ st.t 8 = .osl (nx + 5) ps.length /\ st.t 63 = z0t x.kids /\ st.t 64 = .int .i64 x.kids.length /\ st.t 65 = .int .i64 i /\ st.H (nx + 5) = some (.row 90 ps.length (ps.flatMap z22)) /\ st.H (j) = some (.map (mapI z1n ((nodesT B).map unP))) /\ st.H (j2) = some (.map (setI ms)) /\ (i <= x.kids.length) /\ (nx + 6 <= st.nx) /\ (ps = prK sB bs (x.kids.take i) 0) /\ (∀ id, id < nx -> st.H id = H id)) ?_ ?_); rotate_left; (rintro U st ⟨i, ps, rfl, w2, w3, w4, w5, wHnx, wHnx1, wHnx2, wHnx3, w7, wHnx4, w8, w63, w64, w65, wHnx5, wHj, wHj2, wp0, wp1, wp2, wp3⟩); rotate_left
 ·(refine ⟨_, 0, [], rfl, ?_⟩); (simp (disch := omega) only [go_sem, Nat.reduceBEq, Nat.reduceLeDiff, v2, v3, v4, v5, vHnx, vHnx1, vHnx2, vHnx3, v7, vHnx4, v8, vHnx5, vnx, true_and, Int.natCast_zero, List.flatMap_nil, z0t])
  exact ⟨hjv, hj2v, Nat.le_refl _, rfl, vp0⟩
 have hpl : ps.length <= i := by rw [wp2]; refine Nat.le_trans (zfn _ _ _ _) ?_; rw [List.length_take]; omega
 have f0 := z03 (show nx < st.nx by omega)
 have f1 := z03 (show nx + 1 < st.nx by omega)
 have f2 := z03 (show nx + 2 < st.nx by omega)
 have f3 := z03 (show nx + 3 < st.nx by omega)
 have f4 := z03 (show nx + 4 < st.nx by omega)
 have f5 := z03 (show nx + 5 < st.nx by omega)
 have fj := z03 (show j < st.nx by omega)
 have fj2 := z03 (show j2 < st.nx by omega)
 by_cases hi : i < x.kids.length
 ·have hkA := hxk _ (List.getElem_mem hi)
  have hkA2 : z23 x.kids[i].id A = true := by rw [z1q, decide_eq_true (id_in hkA)]
  have hsnoc := zll sB bs x.kids[i] (x.kids.take i) 0
  rw [<- List.take_succ_eq_append_getElem hi, <- wp2, Nat.zero_add, List.length_take, Nat.min_eq_left (by omega)] at hsnoc
  have hfk := zbe x.kids[i].id ms
  rcases zmn B x.kids[i].id with ⟨_, hkB, n, z, hf⟩ | ⟨_, hkB, hf⟩
  ·by_cases hm : x.kids[i].id ∈ ms
   ·rw [if_pos hm] at hfk
    have hst : sB x.kids[i].id = false := by rw [hsB]; simp [stayB, hm]
    rw [hst, if_neg (by decide), List.append_nil] at hsnoc
    repeat' (first | ((refine zqh fun K hK => ?_); (simp (disch := omega) only [go_sem, Nat.reduceBEq, ↓reduceIte, reduceCtorEq, Nat.reduceAdd, Nat.reduceLeDiff, w2, wHnx, w63, w64, w65, wHj, wHj2, f0, fj, fj2, z0t, hf, hfk])) | ((first | refine zqd _ rfl (fun hc => ?_) (fun hc => ?_) | refine zqm _ rfl (fun hc => ?_) (fun hc => ?_)) <;> (first | (cases hc; done) | ((try simp only [z0e] at hc); (try omega)))) | refine zqa ?_ | refine zqb ?_ | refine zqk ?_ | refine zqv ?_ | refine zqy ?_ | (refine hK _ ?_; clear hK K))
    refine ⟨_, SealTo.refl _, ?_⟩
    repeat' (first | ((refine zqr fun K hK => ?_); (simp (disch := omega) only [go_sem, Nat.reduceBEq, ↓reduceIte, w65])) | (refine hK _ ?_; clear hK K))
    (refine Exists.intro _ (And.intro ?_ ⟨i + 1, ps, rfl, ?_⟩)); rotate_left; (simp (disch := omega) only [go_sem, Nat.reduceBEq, Nat.reduceLeDiff, w2, w3, w4, w5, wHnx, wHnx1, wHnx2, wHnx3, w7, wHnx4, w8, w63, w64, w65, wHnx5, wHj, wHj2, true_and, Int.natCast_add, Int.natCast_one, f0, f1, f2, f3, f4, f5, fj, fj2]); rotate_left
    ·omega
    ·exact ⟨by omega, by omega, hsnoc.symm, fun id hid => by simp (disch := omega) only [z0c]; exact wp3 id hid⟩
   ·rw [if_neg hm] at hfk
    have hst : sB x.kids[i].id = true := by rw [hsB]; simp [stayB, hm, hkA2, hkB]
    rw [hst, if_pos rfl] at hsnoc
    have hbsi : x.kids[i].id ∈ u.kids.map T.id := by
     have h : x.kids[i].id ∈ (x.kids.filter fun k => sB k.id).map T.id := List.mem_map.2 ⟨x.kids[i], List.mem_filter.2 ⟨List.getElem_mem hi, hst⟩, rfl⟩
     rw [hline] at h
     obtain ⟨y, hy, e⟩ := List.mem_map.1 h
     exact List.mem_map.2 ⟨y, (List.mem_filter.1 hy).1, e⟩
    have hlt : (u.kids.map T.id).idxOf x.kids[i].id < u.kids.length := by have := List.idxOf_lt_length_iff.2 hbsi; rwa [List.length_map] at this
    have hin : ∀ H2 n2, st.nx < n2 -> H2 st.nx = some (.box 27 (z08 x.kids[i])) -> RC prog 44 [z0t u.kids, .fn 45 [.ptr st.nx 0]] H2 n2 (.int .i64 (bs.idxOf x.kids[i].id)) := fun H2 n2 h1 h2 => by
     have h := zg0 false u.kids (by unfold maxLen; omega) (g := 45) (cap := [.rptr (z1n x.kids[i])]) (fun y => decide (y.id = x.kids[i].id)) (by simp only [pureD.pureL, z0n, pureD, Bool.and_self]) (fun y _ => zq1 x.kids[i] y)
     rw [zlm, if_pos hlt, <- hbs] at h
     exact PC.borrow h rfl 3 (z0b (z07 _ (z8b _)) (z0b (zgb 2 rfl (z0b (zhw 0 h2 zmc (z5b _)) z40)) z40))
    have hps2 : ps.length + 1 <= 1000001 := by omega
    repeat' (first | ((first | refine zqh fun K hK => ?_ | refine zqr fun K hK => ?_ | ((refine z34 (hin _ _ ?_ ?_) ?_); (focus (((simp (disch := omega) only [go_sem]); done))); (focus ((simp (disch := omega) only [go_sem, f0]); done)))); (simp (disch := omega) only [go_sem, Nat.reduceBEq, ↓reduceIte, reduceCtorEq, Nat.reduceAdd, Nat.reduceMul, Nat.reduceLeDiff, w2, w3, wHnx, wHnx1, w8, w63, w64, w65, wHnx5, wHj, wHj2, f0, f1, f5, fj, fj2, z0t, hf, hfk])) | ((first | refine zqd _ rfl (fun hc => ?_) (fun hc => ?_) | refine zqm _ rfl (fun hc => ?_) (fun hc => ?_)) <;> (first | (cases hc; done) | ((try simp only [z0e] at hc); (try omega)))) | refine zqa ?_ | refine zqb ?_ | refine zqv ?_ | refine zqy ?_ | (refine hK _ ?_; clear hK K))
    refine ⟨_, SealTo.refl _, ?_⟩
    repeat' (first | ((refine zqr fun K hK => ?_); (simp (disch := omega) only [go_sem, Nat.reduceBEq, ↓reduceIte, w65])) | (refine hK _ ?_; clear hK K))
    (refine Exists.intro _ (And.intro ?_ ⟨i + 1, ps ++ [(i, bs.idxOf x.kids[i].id)], rfl, ?_⟩)); rotate_left; (simp (disch := omega) only [go_sem, Nat.reduceBEq, Nat.reduceLeDiff, w2, w3, w4, w5, wHnx, wHnx1, wHnx2, wHnx3, w7, wHnx4, w8, w63, w64, w65, wHnx5, wHj, wHj2, true_and, Int.natCast_add, Int.natCast_one, List.flatMap_append, List.flatMap_cons, List.flatMap_nil, List.append_nil, f0, f1, f2, f3, f4, f5, fj, fj2, hr06, hr6, hr26]); rotate_left
    ·omega
    ·exact ⟨rfl, by omega, by omega, hsnoc.symm, fun id hid => by simp (disch := omega) only [z0c]; exact wp3 id hid⟩
  ·have hst : sB x.kids[i].id = false := by rw [hsB]; simp [stayB, hkB]
   rw [hst, if_neg (by decide), List.append_nil] at hsnoc
   repeat' (first | ((refine zqh fun K hK => ?_); (simp (disch := omega) only [go_sem, Nat.reduceBEq, ↓reduceIte, reduceCtorEq, Nat.reduceAdd, Nat.reduceLeDiff, w2, wHnx, w63, w64, w65, wHj, f0, fj, z0t, hf])) | ((first | refine zqd _ rfl (fun hc => ?_) (fun hc => ?_) | refine zqm _ rfl (fun hc => ?_) (fun hc => ?_)) <;> (first | (cases hc; done) | ((try simp only [z0e] at hc); (try omega)))) | refine zqa ?_ | refine zqb ?_ | refine zqk ?_ | refine zqv ?_ | refine zqy ?_ | (refine hK _ ?_; clear hK K))
   refine ⟨_, SealTo.refl _, ?_⟩
   repeat' (first | ((refine zqr fun K hK => ?_); (simp (disch := omega) only [go_sem, Nat.reduceBEq, ↓reduceIte, w65])) | (refine hK _ ?_; clear hK K))
   (refine Exists.intro _ (And.intro ?_ ⟨i + 1, ps, rfl, ?_⟩)); rotate_left; (simp (disch := omega) only [go_sem, Nat.reduceBEq, Nat.reduceLeDiff, w2, w3, w4, w5, wHnx, wHnx1, wHnx2, wHnx3, w7, wHnx4, w8, w63, w64, w65, wHnx5, wHj, wHj2, true_and, Int.natCast_add, Int.natCast_one, f0, f1, f2, f3, f4, f5, fj, fj2]); rotate_left
   ·omega
   ·exact ⟨by omega, by omega, hsnoc.symm, fun id hid => by simp (disch := omega) only [z0c]; exact wp3 id hid⟩
 ·have hta : x.kids.take i = x.kids := List.take_of_length_le (by omega)
  rw [hta] at wp2
  have hwm := zsh (γ := TT) (s := sB) (ga := z53 B) (gb := z4g A B (fun i => decide (i ∈ ms))) (a := x.kids) (b := u.kids) (z38 hbk.nb hu) x.kids 0 0 0 rfl (Nat.le_refl _) (Nat.zero_le _) (Nat.zero_le _) hline
  rw [<- hbs, <- wp2] at hwm
  obtain ⟨hw1, hw2⟩ := hwm
  simp only [Nat.sub_self, List.take_zero, List.map_nil, List.nil_append, List.drop_zero] at hw1
  have hgp : D.rsl false (z00 prog 90) (z1e (z02 prog 90) (z00 prog 90) ps.length (ps.flatMap z22)) = zt4 ps := by
   rw [zmh, zsn, z4r (f := z22) (fun _ => rfl)]; rfl
  repeat' (first | ((refine zqh fun K hK => ?_); (simp (disch := omega) only [go_sem, ↓reduceIte, w64, w65])) | (refine zqd _ rfl ?_ ?_ <;> intro hc <;> (((try simp only [z0e] at hc); (try omega)))) | refine zqc ?_ | refine zqv ?_ | refine zqz ?_ | refine zqp ?_ | (refine hK _ ?_; clear hK K))
  refine ⟨_, zra (id := nx + 5) (j := 8) (e := 90) (n := ps.length) (cs := ps.flatMap z22) (by (simp (disch := omega) only [go_sem, wHnx5])) (by decide +kernel) (z0y (fun _ => rfl) _) (by (simp (disch := omega) only [go_sem, Nat.reduceBEq, w8])), ?_⟩
  rw [hgp]
  repeat' (((refine zqh fun K hK => ?_); (simp (disch := omega) only [go_sem, Nat.reduceBEq, ↓reduceIte, reduceCtorEq, Nat.reduceAdd, Nat.reduceLeDiff, w2, w3, w5, wHnx, wHnx1, wHnx3, w8, z0t, hr06])))
  refine z34 (zrl (z53 B) (z4g A B (fun i => decide (i ∈ ms))) (fun _ y => z4g A B (fun i => decide (i ∈ ms)) y) x.kids u.kids x3 h3 ps (by omega) hw2 (g1 := 47) (g2 := 23) (g3 := 48) (c1 := [.agg [.mp j0, .mp j, .mp j2]]) (c2 := [.agg [.mp j0, .mp j, .mp j2]]) (c3 := [.ptr nx 0]) (fun y hy H' n' hle hs => ?_) (fun y hy H' n' hle hs => ?_) (fun z hz y hy H' n' hle hs => ?_)) ?_
  ·have lj : ∀ {k : Nat}, k < nx -> k < n' := fun O => Nat.lt_of_lt_of_le (by (simp (disch := omega) only [go_sem]); all_goals omega) hle
   have e1 : H' j = some (zb6 B) := (hs j (by (simp (disch := omega) only [go_sem]); all_goals omega)).trans (by (simp (disch := omega) only [go_sem, wHj, hr6]); all_goals rfl)
   exact zzb B j0 j j2 y (x4 y hy) H' n' (lj hj) e1
  ·have lj : ∀ {k : Nat}, k < nx -> k < n' := fun O => Nat.lt_of_lt_of_le (by (simp (disch := omega) only [go_sem]); all_goals omega) hle
   have e1 : H' j = some (zb6 B) := (hs j (by (simp (disch := omega) only [go_sem]); all_goals omega)).trans (by (simp (disch := omega) only [go_sem, wHj, hr6]); all_goals rfl)
   have e2 : H' j2 = some (.map (setI ms)) := (hs j2 (by (simp (disch := omega) only [go_sem]); all_goals omega)).trans (by (simp (disch := omega) only [go_sem, wHj2, hr26]))
   have e0 : H' j0 = some (zb6 A) := (hs j0 (by (simp (disch := omega) only [go_sem]); all_goals omega)).trans (by (simp (disch := omega) only [go_sem, hr06]); exact (wp3 j0 hj0).trans hHj0)
   exact ih y hy (z12 B u hu y (z0k hy (z05 y))) (h4 y hy) H' n' (lj hj0) (lj hj) (lj hj2) e0 e1 e2
  ·have lj : ∀ {k : Nat}, k < nx + 1 -> k < n' := fun O => Nat.lt_of_lt_of_le (by (simp (disch := omega) only [go_sem]); all_goals omega) hle
   have e1 : H' j = some (zb6 B) := (hs j (by (simp (disch := omega) only [go_sem]); all_goals omega)).trans (by (simp (disch := omega) only [go_sem, wHj, hr6]); all_goals rfl)
   have e2 : H' j2 = some (.map (setI ms)) := (hs j2 (by (simp (disch := omega) only [go_sem]); all_goals omega)).trans (by (simp (disch := omega) only [go_sem, wHj2, hr26]))
   have e0 : H' j0 = some (zb6 A) := (hs j0 (by (simp (disch := omega) only [go_sem]); all_goals omega)).trans (by (simp (disch := omega) only [go_sem, hr06]); exact (wp3 j0 hj0).trans hHj0)
   have eb : H' nx = some (.box 57 [.mp j0, .mp j, .mp j2]) := (hs nx (by (simp (disch := omega) only [go_sem]); all_goals omega)).trans (by (simp (disch := omega) only [go_sem, wHnx, hr06]))
   exact zq2 z y (z4g A B (fun i => decide (i ∈ ms)) y) j0 j j2 nx (lj (by omega)) eb fun H2 n2 hle2 hs2 => ih y hy (z12 B u hu y (z0k hy (z05 y))) (h4 y hy) H2 n2 (by have := lj (show j0 < nx + 1 by omega); omega) (by have := lj (show j < nx + 1 by omega); omega) (by have := lj (show j2 < nx + 1 by omega); omega) ((hs2 j0 (lj (by omega))).trans e0) ((hs2 j (lj (by omega))).trans e1) ((hs2 j2 (lj (by omega))).trans e2)
  rw [hw1]
  unfold z76
  (try (simp (disch := omega) only [go_sem, Nat.reduceBEq, ↓reduceIte, reduceCtorEq, Nat.reduceAdd, Nat.reduceLeDiff, Nat.reduceLT, w7, wHnx4, hr06])); repeat' (first | ((refine zqh fun K hK => ?_); (simp (disch := omega) only [go_sem, Nat.reduceBEq, ↓reduceIte, Nat.reduceAdd, Nat.reduceLeDiff, w4, wHnx2, w7, wHnx4, hr05, hr06])) | refine zqn ?_ | refine zqu (by (simp (disch := omega) only [go_sem, Nat.reduceBEq, ↓reduceIte, Nat.reduceAdd, Nat.reduceLeDiff, w4, wHnx2, hr05, hr06]); rfl) rfl ?_ | (refine hK _ ?_; clear hK K))
  (simp (disch := omega) only [go_sem])
  refine ⟨?_, fun id hid => by simp (disch := omega) only [z0c]; exact wp3 id hid⟩
  have key : ∀ (H2 : HM) (v : D) (t : TT), v = z8i t -> ∃ d, z2e prog H2 4 v = some d /\ Le d (z8i t) := fun H2 v t hv => by subst hv; exact z21 (nx := 0) (z2t _) (Le.refl _)
  refine key _ _ _ ?_
  rw [zq6, z1d, hS, hW, hmv, hx]
  rfl
end
section
open Abs
namespace Tr
theorem zlb {α β : Type} (f : α -> List β) : ∀ (l : List α) (n : Nat), (l.zipIdx n).flatMap (fun q => f q.1) = l.flatMap f
 | [], _ => rfl
 | x :: l, n => by rw [List.zipIdx_cons, List.flatMap_cons, List.flatMap_cons, zlb f l]
theorem ztt : ∀ t : T, (zt6 t).map (·.1) = t.kids.flatMap idsT := by
 refine z6x fun t ih => ?_
 rw [zgt, zlx, List.take_length, List.map_flatMap, <- zlb idsT t.kids 0]
 rw [List.flatMap_def, List.flatMap_def]
 refine congrArg _ (List.map_congr_left fun q hq => ?_)
 have O : q.1 ∈ t.kids := by
  obtain ⟨a, b⟩ := q
  exact (List.mem_zipIdx hq).2.2 ▸ List.getElem_mem _
 rw [List.map_cons, ih q.1 O, z35]
theorem zc8 (t : T) : (plcs t).map (·.1) = idsT t := by
 rw [plcs, List.map_cons, ztt, z35]
theorem zx3 : ∀ (t q : T), q ∈ nodesT t -> ∀ (i : Nat) (h : i < q.kids.length), (q.kids[i].id, (⟨q.id, (i : Int), q.kids[i]⟩ : Plc)) ∈ zt6 t := by
 refine z6x fun t ih q hq i h => ?_
 rw [zgt, zlx, List.take_length, List.mem_flatMap]
 rw [z17, List.mem_cons, List.mem_flatMap] at hq
 rcases hq with rfl | ⟨k, O, hq⟩
 ·refine ⟨(q.kids[i], i), ?_, by simp⟩
  rw [List.mem_zipIdx_iff_getElem?]; simp [h]
 ·obtain ⟨j, hj, rfl⟩ := List.getElem_of_mem O
  refine ⟨(t.kids[j], j), ?_, List.mem_cons_of_mem _ (ih _ O q hq i h)⟩
  rw [List.mem_zipIdx_iff_getElem?]; simp [hj]
theorem zw4 {A : T} (hn : (idsT A).Nodup) {i : Idv} (hm : i ∈ idsT A) : ∃ p : Plc, (i, p) ∈ plcs A /\ p.unit = (findR i A).1 /\ (¬ A.id = i -> zed i A = (p.par, p.pos, true)) := by
 by_cases h0 : A.id = i
 ·refine ⟨⟨Idv.zero, 0, A⟩, by rw [plcs, h0]; simp, ?_, fun h => absurd h0 h⟩
  rw [z0x hn (z05 A) h0]
 ·obtain ⟨q, hq, k, O, hki, hp⟩ := zgf hn hm h0
  obtain ⟨j, hj, rfl⟩ := List.getElem_of_mem O
  refine ⟨⟨q.id, (j : Int), q.kids[j]⟩, ?_, ?_, fun _ => ?_⟩
  ·rw [plcs, <- hki]; exact List.mem_cons_of_mem _ (zx3 A q hq j hj)
  ·rw [z0x hn (z12 A q hq _ (z0k O (z05 _))) hki]
  ·rw [<- hki]; exact zx9 hn hq j hj
theorem ztu : ∀ (t : T), ∀ e ∈ zt6 t, e.2.unit ∈ nodesT t /\ e.2.unit.id = e.1 := by
 refine z6x fun t ih e he => ?_
 rw [zgt, zlx, List.take_length, List.mem_flatMap] at he
 obtain ⟨q, hq, he⟩ := he
 have O : q.1 ∈ t.kids := by
  obtain ⟨a, b⟩ := q
  exact (List.mem_zipIdx hq).2.2 ▸ List.getElem_mem _
 rcases List.mem_cons.1 he with rfl | he
 ·exact ⟨z0k O (z05 _), rfl⟩
 ·obtain ⟨h1, h2⟩ := ih q.1 O e he
  exact ⟨z0k O h1, h2⟩
theorem zpg (t : T) : ∀ e ∈ plcs t, e.2.unit ∈ nodesT t /\ e.2.unit.id = e.1 := by
 intro e he
 rw [plcs] at he
 rcases List.mem_cons.1 he with rfl | he
 ·exact ⟨z05 t, rfl⟩
 ·exact ztu t e he
end Tr
open Tr
theorem zet {α : Type} [DecidableEq α] {l : List α} (h : l.Nodup) : z15 l = l := by
 have key : ∀ l : List α, l.Nodup -> z15 l = l := by
  refine zmm (p := fun l => l.Nodup -> z15 l = l) (fun _ => rfl) fun l x ih h => ?_
  rw [List.nodup_append] at h
  rw [z8e, ih h.1, if_neg fun hx => h.2.2 x hx x (by simp) rfl]
 exact key l h
theorem zph {β : Type} {enc : β -> D} {l : List (Idv × β)} (hn : (l.map (·.1)).Nodup) {i : Nat} {k v : D} (h : (mapI enc l)[i]? = some (k, v)) : ∃ e, l[i]? = some e /\ k = z6e e.1 /\ v = enc e.2 := by
 unfold mapI at h
 rw [zet hn, List.map_map, List.getElem?_map, Option.map_eq_some_iff] at h
 obtain ⟨e, h1, h2⟩ := h
 simp only [Function.comp_apply, Prod.mk.injEq] at h2
 refine ⟨e, h1, h2.1.symm, ?_⟩
 rw [<- h2.2]
 exact z9p hn (List.mem_of_getElem? h1)
theorem zhx {β : Type} {enc : β -> D} {l : List (Idv × β)} (hn : (l.map (·.1)).Nodup) : (mapI enc l).length = l.length := by
 rw [zcc, zet hn, List.length_map]
theorem zg6 {A : T} (hn : (idsT A).Nodup) (i : Idv) :
  (z23 i A = true /\ ∃ p : Plc, p.unit = (findR i A).1 /\ (¬ A.id = i -> zed i A = (p.par, p.pos, true)) /\ ∃ n, z2y prog 23 (.agg [.int .i64 i.act, .int .i64 i.item, .int .i64 i.n]) (mapI encPl (plcs A)) = some (some (n, .agg (z30 p)))) \/
  (z23 i A = false /\ z2y prog 23 (.agg [.int .i64 i.act, .int .i64 i.item, .int .i64 i.n]) (mapI encPl (plcs A)) = some none) := by
 have hg := zcb encPl (plcs A) i
 rw [zc8] at hg
 cases h : z23 i A with
 | true =>
  have hm : i ∈ idsT A := by rw [z1q, decide_eq_true_eq] at h; exact h
  obtain ⟨p, h1, h2, h3⟩ := zw4 hn hm
  rw [if_pos hm, z9p (by rw [zc8]; exact hn) h1] at hg
  exact .inl ⟨rfl, p, h2, h3, _, hg⟩
 | false =>
  rw [if_neg (by rw [z1q, decide_eq_false_iff_not] at h; exact h)] at hg
  exact .inr ⟨rfl, hg⟩
end
end Go.Proofs.YtfechgagcgbldaaDoor
namespace Go.Proofs.YtfechgagcgbldaaDoor.Tr
structure Fit50 (u : T) : Prop where
 sz : szB u = true
 cnt : cntT u <= 1000000
 dep : depT u <= 1000000
end Go.Proofs.YtfechgagcgbldaaDoor.Tr
namespace Go.Proofs.YtfechgagcgbldaaDoor
open _root_.Go.Proofs.Tryd
section
open Abs Facts Tr
attribute [local irreducible] awp
set_option maxRecDepth 100000
namespace Tr
theorem z9s (u : T) : ((((z15 (idsT u)).length : Nat) : Int) = ((cntT u : Nat) : Int)) ↔ (idsT u).Nodup := by
 rw [<- (z2w (idsT u)).2.2.2]
 have : (idsT u).length = cntT u := by unfold idsT cntT; rw [List.length_map]
 rw [this]
 exact ⟨fun h => by omega, fun h => by rw [h]⟩
theorem z9t (u : T) : z3r u = (z8q u && (decide (u.kind = 0) && decide (((z15 (idsT u)).length : Int) = (cntT u : Int)))) := by
 rw [Bool.eq_iff_iff, z1g]
 simp only [Bool.and_eq_true, decide_eq_true_eq, z9s]
 constructor <;> rintro ⟨h1, h2, h3⟩ <;> exact ⟨h2, h1, h3⟩
end Tr
theorem zls (u : T) (h : Fit50 u) : PC prog 74 [z1n u] (.bool (z3r u)) := by
 have hc := h.cnt
 have V := h.dep
 have c1 := zgm u h.sz (by omega) (by omega)
 have c2 := zc7 u (zde u h.sz) (by omega)
 have c3 := zdb u h.sz
 have hl : (mapI encPl (plcs u)).length = (z15 (idsT u)).length := by rw [zcc, zc8]
 refine z3l 1 (by simp only [pureD.pureL, z0n, Bool.and_self]) rfl (z2o [4000012, 3000003, 3000007, 3000011, 3000014, 5000004, 5000015] func74 rfl (by decide +kernel) rfl ?_)
 show awp _ _ (Code.seq _ _) _ _
 rw [z9t]
 have hle : (z15 (idsT u)).length <= cntT u := by have := (z2w (idsT u)).2.2.1; unfold idsT at this ⊢; unfold cntT; rwa [List.length_map] at this
 cases hv : z8q u <;> by_cases O : u.kind = 0
 all_goals
  rw [hv] at c1
  repeat' (first | ((first | refine zqh fun K hK => ?_ | refine zqe (by decide +kernel) fun K hK => ?_ | refine zqt (c1) ?_ | refine zqt (c2) ?_ | refine z8d (c3) rfl rfl rfl ?_); (simp (disch := omega) only [go_sem, Nat.reduceBEq, Nat.reduceEqDiff, ↓reduceIte, reduceCtorEq, Nat.reduceAdd, Nat.reduceLeDiff, Nat.reduceLT, O, hl])) | refine nxt ?_ | refine zqu (by simp only [go_sem]; rfl) rfl ?_ | (refine hK _ ?_; clear hK K))
  exact z04 (by simp [O])
end
section
open Abs Facts Tr
set_option maxRecDepth 100000
namespace Abs
def zeroPr : List D := [D.int .i64 0, D.int .i64 0, D.int .i64 0, D.int .i64 0, D.str ByteArray.empty, D.nil, D.nil, D.nil, D.int .i64 0, D.int .i64 0, D.int .i64 0, D.int .i64 0, D.str ByteArray.empty, D.nil, D.nil, D.nil, D.nmp, D.nmp]
@[go_sem] theorem zeroPr_T : z11 prog 100 = some zeroPr := zvd
def cellsPr (A B : T) (p q : Nat) : List D := z08 A ++ (z08 B ++ [.mp p, .mp q])
theorem z1y (A B : T) (p q : Nat) : cellsPr A B p q = [.int .i64 A.id.act, .int .i64 A.id.item, .int .i64 A.id.n, .int .i64 A.kind, .str A.label, z1x A.head, z1x A.words, z0t A.kids, .int .i64 B.id.act, .int .i64 B.id.item, .int .i64 B.id.n, .int .i64 B.kind, .str B.label, z1x B.head, z1x B.words, z0t B.kids, .mp p, .mp q] := by
 rw [cellsPr, z0v, z0v]; rfl
def pr1 (A : T) : List D := z13 zeroPr 0 (z08 A)
def pr2 (A B : T) : List D := z13 (pr1 A) 8 (z08 B)
def pr3 (A B : T) (p : Nat) : List D := z13 (pr2 A B) 16 [.mp p]
@[go_sem] theorem pr1_eq (A : T) : z13 zeroPr 0 (z08 A) = pr1 A := rfl
@[go_sem] theorem pr2_eq (A B : T) : z13 (pr1 A) 8 (z08 B) = pr2 A B := rfl
@[go_sem] theorem pr3_eq (A B : T) (p : Nat) : z13 (pr2 A B) 16 [.mp p] = pr3 A B p := rfl
@[go_sem] theorem z01b (A B : T) (p q : Nat) : z13 (pr3 A B p) 17 [.mp q] = cellsPr A B p q := by
 rw [pr3, pr2, pr1, z1y, z0v, z0v, zeroPr]; simp only [z13, List.set_cons_zero, List.set_cons_succ]
@[go_sem] theorem pr4_set (A B : T) (p q : Nat) : ((pr2 A B).set 16 (.mp p)).set 17 (.mp q) = cellsPr A B p q := z01b A B p q
@[go_sem] theorem zwy : zeroPr.length = 18 := rfl
@[go_sem] theorem zwz (A : T) : (pr1 A).length = 18 := by simp only [pr1, z2s, zwy]
@[go_sem] theorem zx0 (A B : T) : (pr2 A B).length = 18 := by simp only [pr2, z2s, zwz]
@[go_sem] theorem pr3_len (A B : T) (p : Nat) : (pr3 A B p).length = 18 := by simp only [pr3, z2s, zx0]
@[go_sem] theorem zk0 (A B : T) (p q : Nat) : (cellsPr A B p q).length = 18 := by rw [z1y]; rfl
@[go_sem] theorem z01c (A B : T) (p q : Nat) : z13 zeroPr 0 (cellsPr A B p q) = cellsPr A B p q := by rw [z1y, zeroPr]; simp only [z13, List.set_cons_zero, List.set_cons_succ]
@[go_sem] theorem zze : z13 zeroPr 0 zeroPr = zeroPr := rfl
@[go_sem] theorem take_Pr (A B : T) (p q : Nat) : List.take 18 (cellsPr A B p q) = cellsPr A B p q := List.take_of_length_le (by rw [zk0]; exact Nat.le_refl _)
@[go_sem] theorem take_Pr0 : List.take 18 zeroPr = zeroPr := rfl
@[go_sem] theorem z01d (A B : T) (p q : Nat) : List.take 8 (cellsPr A B p q) = z08 A := by rw [z1y, z0v]; rfl
@[go_sem] theorem z01e (A B : T) (p q : Nat) : List.take 8 (List.drop 8 (cellsPr A B p q)) = z08 B := by rw [z1y, z0v]; rfl
@[go_sem] theorem z01f (A B : T) (p q : Nat) : (cellsPr A B p q)[16]? = some (.mp p) := by rw [z1y]; rfl
@[go_sem] theorem z01g (A B : T) (p q : Nat) : (cellsPr A B p q)[17]? = some (.mp q) := by rw [z1y]; rfl
end Abs
namespace Abs
theorem Sem.rangeL {P : Program} {N : Nat} {own : List Nat} {i0 b i1 b1 i4 : Nat} {l0 l1 l4 : List Oper} {t7 t8 t9 t10 : Nat} {T : TypeId} {x : Operand} {rest4 : List Oper} {body : Code} {Q : Exit -> St -> Prop} {st : St} (k : Nat) (hm0 : P.follows .mixedOrders = true) {o0 o1 o2 o4 : Oper} (h0 : l0.drop k = [o0]) (h1 : l1 = [o1, o2]) (h4 : l4 = o4 :: rest4)
  (e0 : o0.op = .range T x /\ o0.dst = some t7 /\ o0.guard = none) (e1 : o1.op = .next (.tmp t7) false /\ o1.dst = some t8 /\ o1.guard = none)
  (e2 : o2.op = .extract (.tmp t8) 0 /\ o2.dst = some t9 /\ o2.guard = none) (e4 : o4.op = .entry (.tmp t7) /\ o4.dst = some t10 /\ o4.guard = none) {kt et : TypeId} (hT : z39 P T = some (kt, et))
  (hN : decide (t7 < N /\ t8 < N /\ t9 < N /\ t10 < N /\ t7 ≠ t8 /\ t7 ≠ t9) = true) (V : (l0.all (z31 N) && rest4.all (z31 N)) = true) (hb : z5a N body = true)
  (hpre : z1f P own (l0.map (·.dst)) (l0.take k) (fun st1 => ∃ m es, st1.ev x = .mp m /\ st1.H m = some (.map es) /\ z018 P own m es t7 t8 t9 t10 b1 (l4.map (·.dst)) rest4 body Q st1) st) :
  Sem P N (.seq (.region i0 l0.toArray false) (.block b (.loop (.seq (.region i1 l1.toArray false) (.seq (.cond (.tmp t9) .skip (.exit b)) (.block b1 (.seq (.region i4 l4.toArray false) body))))))) Q st := by
 simp only [Bool.and_eq_true, List.all_eq_true] at V
 refine Sem.rangeMap hm0 e0 e1 e2 e4 (pre := l0.take k) ?_ ?_ ?_ hT (of_decide_eq_true hN) (fun o ho => V.1 o (List.mem_of_mem_take ho)) V.2 hb hpre
 ·show l0 = _
  rw [<- h0, List.take_append_drop]
 ·exact h1
 ·exact h4
theorem zeq {b1 : Nat} {I : St -> Prop} {Q : Exit -> St -> Prop} {st : St} (h : I st) : rndK b1 I Q .normal st := h
theorem zw2 {b1 : Nat} {I : St -> Prop} {Q : Exit -> St -> Prop} {st : St} (h : Q .ret st) : rndK b1 I Q .ret st := h
end Abs
end
section
open Abs Facts
attribute [local irreducible] awp
set_option maxHeartbeats 2000000 in
theorem pc11 (l : List Int) (hl : l.length <= maxLen) : PC prog 93 [z8p l] (z8p ((Lis.lis l).map fun (n : Nat) => (n : Int))) := by
 unfold maxLen at hl
 refine z3l 2 (by simp only [pureD.pureL, z54, Bool.and_self]) (z54 _) (z2o [7] func93 rfl (by decide +kernel) rfl ?_)
 show awp _ _ (Code.seq _ _) _ _
 (refine zqh fun K hK => ?_); (simp only [go_sem, Nat.reduceBEq, Nat.reduceBeqDiff, Nat.reduceEqDiff, ↓reduceIte, reduceCtorEq, Nat.reduceAdd, Nat.reduceMul, Nat.reduceLeDiff, Nat.reduceLT, Int.reduceLT, Int.reduceLE, Int.reduceEq]); (refine hK _ ?_); (clear hK K)
 repeat refine zqj ?_
 (refine zqh fun K hK => ?_); (simp only [go_sem, Nat.reduceBEq, Nat.reduceBeqDiff, Nat.reduceEqDiff, ↓reduceIte, reduceCtorEq, Nat.reduceAdd, Nat.reduceMul, Nat.reduceLeDiff, Nat.reduceLT, Int.reduceLT, Int.reduceLE, Int.reduceEq, z8p]); (refine hK _ ?_); (clear hK K)
 refine z1a fun K hK => ?_
 (refine zqm _ rfl (fun hc => ?_) (fun hc => ?_)) <;> (simp only [z0e] at hc)
 ·(refine zqh fun K hK => ?_); (simp only [go_sem, Nat.reduceBEq, Nat.reduceBeqDiff, Nat.reduceEqDiff, ↓reduceIte, reduceCtorEq, Nat.reduceAdd, Nat.reduceMul, Nat.reduceLeDiff, Nat.reduceLT, Int.reduceLT, Int.reduceLE, Int.reduceEq]); (refine hK _ ?_); (clear hK K)
  (refine zqn ?_); (refine Exists.intro _ (And.intro rfl ?_))
  exact zpn (by simp only [Lis.lis]; rw [if_pos (by omega)]; rfl)
 refine zqk (hK _ ?_); clear hK K
 repeat refine zqj ?_
 have g1 : (0 : Int) <= (l.length : Int) := by omega
 have g2 : l.length * 8 <= 140737488355328 := by omega
 have g3 : (l.length : Int) <= 9223372036854775807 := by omega
 (refine zqh fun K hK => ?_); (simp only [go_sem, Nat.reduceBEq, Nat.reduceBeqDiff, Nat.reduceEqDiff, ↓reduceIte, reduceCtorEq, Nat.reduceAdd, Nat.reduceMul, Nat.reduceLeDiff, Nat.reduceLT, Int.reduceLT, Int.reduceLE, Int.reduceEq, z8p, g2, g3]); (refine hK _ ?_); (clear hK K)
 (refine zqh fun K hK => ?_); (simp only [go_sem, Nat.reduceBEq, Nat.reduceBeqDiff, Nat.reduceEqDiff, ↓reduceIte, reduceCtorEq, Nat.reduceAdd, Nat.reduceMul, Nat.reduceLeDiff, Nat.reduceLT, Int.reduceLT, Int.reduceLE, Int.reduceEq]); (refine hK _ ?_); (clear hK K)
 refine z1a fun K hK => ?_
 repeat refine zqj ?_
 have w1 : IntKind.i64.wrap ((l.length : Int) - 1) = (l.length : Int) - 1 := z2z (by omega)
 (refine zqh fun K hK => ?_); (simp only [go_sem, Nat.reduceBEq, Nat.reduceBeqDiff, Nat.reduceEqDiff, ↓reduceIte, reduceCtorEq, Nat.reduceAdd, Nat.reduceMul, Nat.reduceLeDiff, Nat.reduceLT, Int.reduceLT, Int.reduceLE, Int.reduceEq, z8p, w1, zga (D.int .i64) 0 l.length]); (refine hK _ ?_); (clear hK K)
 refine zqi (z4o (fun n st => ∃ cs : List Int, n <= l.length /\ st.t 0 = z8p l /\ st.t 3 = .osl 0 l.length /\ st.H 0 = some (.row 3 l.length (cs.map (D.int .i64))) /\ cs.length = l.length /\
   cs.drop n = Lis.rows (l.drop n) /\ st.t 5 = .int .i64 ((n : Int) - 1) /\ st.t 4 = .int .i64 ((Lis.rows (l.drop n)).foldr max 0) /\ st.nx = 1) l.length ?_ ?_)
 ·exact ⟨List.replicate l.length 0, Nat.le_refl _, rfl, rfl, rfl, by simp, by simp [Lis.rows], rfl, by simp [Lis.rows]; rfl, rfl⟩
 rintro n st ⟨cs, hn, h0, h3, hH, hcl, hcd, h5, h4, hnx⟩
 repeat refine zqj ?_
 (refine zqh fun K hK => ?_); (simp only [go_sem, Nat.reduceBEq, Nat.reduceBeqDiff, Nat.reduceEqDiff, ↓reduceIte, reduceCtorEq, Nat.reduceAdd, Nat.reduceMul, Nat.reduceLeDiff, Nat.reduceLT, Int.reduceLT, Int.reduceLE, Int.reduceEq, h5]); (refine hK _ ?_); (clear hK K)
 refine z1a fun K2 hK2 => ?_
 (refine zqm _ rfl (fun hc => ?_) (fun hc => ?_)) <;> (simp only [z0e] at hc)
 ·obtain ⟨j, rfl⟩ : ∃ j, n = j + 1 := ⟨n - 1, by omega⟩
  have h5' : st.t 5 = .int .i64 (j : Int) := by rw [h5]; congr 1; omega
  refine zqk (hK2 _ ?_); clear hK2 K2 h5
  repeat refine zqj ?_
  refine z1a fun K2 hK2 => ?_
  refine zqi ?_
  repeat refine zqj ?_
  have hj : (j : Int) < (l.length : Int) := by omega
  have hj2 : j + 1 <= l.length := by omega
  (refine zqh fun K hK => ?_); (simp only [go_sem, Nat.reduceBEq, Nat.reduceBeqDiff, Nat.reduceEqDiff, ↓reduceIte, reduceCtorEq, Nat.reduceAdd, Nat.reduceMul, Nat.reduceLeDiff, Nat.reduceLT, Int.reduceLT, Int.reduceLE, Int.reduceEq, h3, h5', hH, hj, hcl, hj2, zgk]); (refine hK _ ?_); (clear hK K)
  refine z1a fun K3 hK3 => ?_
  repeat refine zqj ?_
  have wj : IntKind.i64.wrap ((j : Int) + 1) = ((j + 1 + 0 : Nat) : Int) := by rw [z2z (by omega)]; omega
  (refine zqh fun K hK => ?_); (simp only [go_sem, Nat.reduceBEq, Nat.reduceBeqDiff, Nat.reduceEqDiff, ↓reduceIte, reduceCtorEq, Nat.reduceAdd, Nat.reduceMul, Nat.reduceLeDiff, Nat.reduceLT, Int.reduceLT, Int.reduceLE, Int.reduceEq, h5', wj]); (refine hK _ ?_); (clear hK K)
  refine zqi (z4o (fun m st => ∃ (k : Nat) (cs : List Int), m = l.length - (j + 1 + k) /\ j + 1 + k <= l.length /\ st.t 0 = z8p l /\ st.t 3 = .osl 0 l.length /\ st.H 0 = some (.row 3 l.length (cs.map (D.int .i64))) /\ cs.length = l.length /\
   cs.drop (j + 1) = Lis.rows (l.drop (j + 1)) /\ st.t 5 = .int .i64 (j : Int) /\ st.t 6 = .int .i64 ((j + 1 + k : Nat) : Int) /\ cs[j]? = some (Lis.inner l j k) /\ 1 <= Lis.inner l j k /\ Lis.inner l j k <= l.length /\ st.t 4 = .int .i64 ((Lis.rows (l.drop (j + 1))).foldr max 0) /\ st.nx = 1) (l.length - (j + 1)) ?_ ?_)
  ·refine ⟨0, cs.set j 1, rfl, hj2, h0, h3, rfl, by simpa using hcl, ?_, h5', rfl, ?_, by simp [Lis.inner_zero], by simp [Lis.inner_zero]; omega, h4, hnx⟩
   ·rw [List.drop_set_of_lt (by omega)]; exact hcd
   ·have : j < cs.length := by omega
    simp [Lis.inner_zero, this]
  clear hH hcd hcl h0 h3 h4 hnx h5' hn
  rintro m st ⟨k, cs, rfl, O, h0, h3, hH, hcl, hcd, h5, h6, hcj, hi1, hi2, h4, hnx⟩
  repeat refine zqj ?_
  (refine zqh fun K hK => ?_); (simp only [go_sem, Nat.reduceBEq, Nat.reduceBeqDiff, Nat.reduceEqDiff, ↓reduceIte, reduceCtorEq, Nat.reduceAdd, Nat.reduceMul, Nat.reduceLeDiff, Nat.reduceLT, Int.reduceLT, Int.reduceLE, Int.reduceEq, h6, h0, z8p]); (refine hK _ ?_); (clear hK K)
  refine z1a fun K4 hK4 => ?_
  (refine zqm _ rfl (fun hc => ?_) (fun hc => ?_)) <;> (simp only [z0e] at hc)
  ·have hk' : j + 1 + k < l.length := by omega
   refine zqk (hK4 _ ?_); clear hK4 K4
   refine z1a fun K4 hK4 => ?_
   refine zqi ?_
   repeat refine zqj ?_
   have i1 := z3d (D.int .i64) l (j + 1 + k) hk'
   have i2 := z3d (D.int .i64) l j (by omega)
   (refine zqe (by decide +kernel) fun K hK => ?_); (simp only [go_sem, Nat.reduceBEq, Nat.reduceBeqDiff, Nat.reduceEqDiff, ↓reduceIte, reduceCtorEq, Nat.reduceAdd, Nat.reduceMul, Nat.reduceLeDiff, Nat.reduceLT, Int.reduceLT, Int.reduceLE, Int.reduceEq, h0, h5, h6, i1, i2, z8p]); (refine hK _ ?_); (clear hK K)
   have hin := Lis.inner_succ l j k hk' cs hcl hcd
   have hle := Lis.rows_get_le l (j + 1 + k) cs hcl (j + 1) hcd (by omega) hk'
   (refine zqm _ rfl (fun hc => ?_) (fun hc => ?_)) <;> (simp only [z0e] at hc)
   ·have wk : IntKind.i64.wrap (cs[j + 1 + k] + 1) = cs[j + 1 + k] + 1 := z2z (by omega)
    have e1 : cs[j + 1 + k]? = some cs[j + 1 + k] := List.getElem?_eq_getElem (by omega)
    have hkn : ((j + 1 + k : Nat) : Int) < (l.length : Int) := by omega
    (refine zcg (by decide +kernel) ?_); (simp only [go_sem, Nat.reduceBEq, Nat.reduceBeqDiff, Nat.reduceEqDiff, ↓reduceIte, reduceCtorEq, Nat.reduceAdd, Nat.reduceMul, Nat.reduceLeDiff, Nat.reduceLT, Int.reduceLT, Int.reduceLE, Int.reduceEq, h3, h5, h6, hH, hj, hkn, hcl, hj2, e1, hcj, wk, zgk])
    show K4 _
    have wk2 : IntKind.i64.wrap (((j + 1 + k : Nat) : Int) + 1) = ((j + 1 + (k + 1) : Nat) : Int) := by rw [z2z (by omega)]; omega
    have e2 : Lis.inner l j (k + 1) = max (Lis.inner l j k) (cs[j + 1 + k] + 1) := by rw [hin]; unfold Lis.upd1; rw [if_pos hc]
    refine hK4 _ ?_
    (refine z32 ?_); (simp only [go_sem, Nat.reduceBEq, Nat.reduceBeqDiff, Nat.reduceEqDiff, ↓reduceIte, reduceCtorEq, Nat.reduceAdd, Nat.reduceMul, Nat.reduceLeDiff, Nat.reduceLT, Int.reduceLT, Int.reduceLE, Int.reduceEq, h6, wk2])
    refine ⟨l.length - (j + 1 + (k + 1)), by omega, k + 1, cs.set j (max (Lis.inner l j k) (cs[j + 1 + k] + 1)), rfl, by omega, h0, h3, rfl, by simpa using hcl, ?_, h5, rfl, ?_, by rw [e2]; omega, by rw [e2]; have := Lis.inner_le l j (k + 1) (by omega); rw [e2] at this; exact this, h4, hnx⟩
    ·rw [List.drop_set_of_lt (by omega)]; exact hcd
    ·rw [e2, List.getElem?_set_self (by omega)]
   ·refine zqk (hK4 _ ?_); clear hK4 K4
    have wk : IntKind.i64.wrap (((j + 1 + k : Nat) : Int) + 1) = ((j + 1 + (k + 1) : Nat) : Int) := by rw [z2z (by omega)]; omega
    have e2 : Lis.inner l j (k + 1) = Lis.inner l j k := by rw [hin]; unfold Lis.upd1; rw [if_neg hc]
    (refine z32 ?_); (simp only [go_sem, Nat.reduceBEq, Nat.reduceBeqDiff, Nat.reduceEqDiff, ↓reduceIte, reduceCtorEq, Nat.reduceAdd, Nat.reduceMul, Nat.reduceLeDiff, Nat.reduceLT, Int.reduceLT, Int.reduceLE, Int.reduceEq, h6, wk])
    exact ⟨l.length - (j + 1 + (k + 1)), by omega, k + 1, cs, rfl, by omega, h0, h3, hH, hcl, hcd, h5, rfl, by rw [e2]; exact hcj, by rw [e2]; exact hi1, by rw [e2]; exact hi2, h4, hnx⟩
  ·refine zql ?_
   show K3 _
   refine hK3 _ ?_
   have hkk : j + 1 + k = l.length := by omega
   (refine z32 ?_); (simp only [go_sem, Nat.reduceBEq, Nat.reduceBeqDiff, Nat.reduceEqDiff, ↓reduceIte, reduceCtorEq, Nat.reduceAdd, Nat.reduceMul, Nat.reduceLeDiff, Nat.reduceLT, Int.reduceLT, Int.reduceLE, Int.reduceEq, h4, h3, h5, hH, hj, hj2, hcl, hcj])
   refine (show K2 _ from hK2 _ ?_)
   have wj2 : IntKind.i64.wrap ((j : Int) - 1) = (j : Int) - 1 := z2z (by omega)
   (refine z32 ?_); (simp only [go_sem, Nat.reduceBEq, Nat.reduceBeqDiff, Nat.reduceEqDiff, ↓reduceIte, reduceCtorEq, Nat.reduceAdd, Nat.reduceMul, Nat.reduceLeDiff, Nat.reduceLT, Int.reduceLT, Int.reduceLE, Int.reduceEq, h5, wj2])
   have hall := Lis.inner_all l j (by omega)
   have hk0 : l.length - (j + 1) = k := by omega
   rw [hk0] at hall
   refine ⟨j, by omega, cs, by omega, h0, h3, hH, hcl, ?_, rfl, ?_, hnx⟩
   ·rw [hall, List.drop_eq_getElem_cons (by omega), hcd]
    congr 1
    rw [List.getElem?_eq_getElem (by omega)] at hcj
    exact Option.some.inj hcj
   ·show D.int .i64 _ = D.int .i64 _
    rw [hall, List.foldr_cons, Int.max_comm]
 ·refine zql ?_
  refine (show K _ from hK _ ?_)
  obtain rfl : n = 0 := by omega
  simp only [List.drop_zero] at hcd h4
  subst hcd
  (refine zqh fun K hK => ?_); (simp only [go_sem, Nat.reduceBEq, Nat.reduceBeqDiff, Nat.reduceEqDiff, ↓reduceIte, reduceCtorEq, Nat.reduceAdd, Nat.reduceMul, Nat.reduceLeDiff, Nat.reduceLT, Int.reduceLT, Int.reduceLE, Int.reduceEq, hnx]); (refine hK _ ?_); (clear hK K)
  repeat refine zqj ?_
  (refine zqh fun K hK => ?_); (simp only [go_sem, Nat.reduceBEq, Nat.reduceBeqDiff, Nat.reduceEqDiff, ↓reduceIte, reduceCtorEq, Nat.reduceAdd, Nat.reduceMul, Nat.reduceLeDiff, Nat.reduceLT, Int.reduceLT, Int.reduceLE, Int.reduceEq, h0, z8p]); (refine hK _ ?_); (clear hK K)
  refine z1a fun K3 hK3 => ?_
  refine zqi (z4o (fun n st => ∃ i : Nat, n = l.length - i /\ i <= l.length /\ st.t 0 = z8p l /\ st.t 3 = .osl 0 l.length /\ st.H 0 = some (.row 3 l.length ((Lis.rows l).map (D.int .i64))) /\
   st.t 4 = .int .i64 (Lis.most l) /\ st.t 62 = .int .i64 l.length /\ st.t 63 = .int .i64 i /\ st.t 7 = .osl 1 (Lis.sel l i).length /\ st.H 1 = some (.row 3 (Lis.sel l i).length ((Lis.sel l i).map fun (n : Nat) => D.int .i64 (n : Int)))) l.length ?_ ?_)
  ·exact ⟨0, by omega, by omega, h0, h3, hH, h4, rfl, rfl, rfl, rfl⟩
  clear h0 h3 hH h4 h5 hnx
  rintro n st ⟨i, rfl, hi, h0, h3, hH, h4, h62, h63, h7, hH1⟩
  repeat refine zqj ?_
  (refine zqh fun K hK => ?_); (simp only [go_sem, Nat.reduceBEq, Nat.reduceBeqDiff, Nat.reduceEqDiff, ↓reduceIte, reduceCtorEq, Nat.reduceAdd, Nat.reduceMul, Nat.reduceLeDiff, Nat.reduceLT, Int.reduceLT, Int.reduceLE, Int.reduceEq, h63, h62]); (refine hK _ ?_); (clear hK K)
  refine z1a fun K4 hK4 => ?_
  (refine zqm _ rfl (fun hc => ?_) (fun hc => ?_)) <;> (simp only [z0e] at hc)
  ·have hi' : i < l.length := by omega
   refine zqk (hK4 _ ?_)
   refine z1a fun K5 hK5 => ?_
   refine zqi ?_
   repeat refine zqj ?_
   (refine zqh fun K hK => ?_); (simp only [go_sem, Nat.reduceBEq, Nat.reduceBeqDiff, Nat.reduceEqDiff, ↓reduceIte, reduceCtorEq, Nat.reduceAdd, Nat.reduceMul, Nat.reduceLeDiff, Nat.reduceLT, Int.reduceLT, Int.reduceLE, Int.reduceEq, h63]); (refine hK _ ?_); (clear hK K)
   have hs := Lis.sel_succ l i
   have hrl := Lis.rows_length l
   have hri : (Lis.rows l)[i]? = some ((Lis.rows l).getD i 0) := by rw [List.getD_eq_getElem?_getD, List.getElem?_eq_getElem (by omega)]; rfl
   have i1 := z3d (D.int .i64) l i hi'
   have hin : (i : Int) < (l.length : Int) := by omega
   have tail : ∀ st' : St, st'.t 0 = z8p l -> st'.t 3 = .osl 0 l.length -> st'.H 0 = some (.row 3 l.length ((Lis.rows l).map (D.int .i64))) -> st'.t 4 = .int .i64 (Lis.most l) -> st'.t 62 = .int .i64 l.length -> st'.t 63 = .int .i64 i ->
     st'.t 7 = .osl 1 (Lis.sel l (i + 1)).length -> st'.H 1 = some (.row 3 (Lis.sel l (i + 1)).length ((Lis.sel l (i + 1)).map fun (n : Nat) => D.int .i64 (n : Int))) -> K5 st' := by
    intro st' h0 h3 hH h4 h62 h63 h7 hH1
    refine hK5 _ ?_
    have wi : IntKind.i64.wrap ((i : Int) + 1) = ((i + 1 : Nat) : Int) := by rw [z2z (by omega)]; omega
    (refine z32 ?_); (simp only [go_sem, Nat.reduceBEq, Nat.reduceBeqDiff, Nat.reduceEqDiff, ↓reduceIte, reduceCtorEq, Nat.reduceAdd, Nat.reduceMul, Nat.reduceLeDiff, Nat.reduceLT, Int.reduceLT, Int.reduceLE, Int.reduceEq, h63, wi])
    exact ⟨l.length - (i + 1), by omega, i + 1, rfl, by omega, h0, h3, hH, h4, h62, rfl, h7, hH1⟩
   have hmb := Lis.most_bd l
   have hsl := Lis.sel_len l i
   by_cases c1 : ((Lis.sel l i).length : Int) < Lis.most l
   ·have wm : IntKind.i64.wrap (Lis.most l - ((Lis.sel l i).length : Int)) = Lis.most l - ((Lis.sel l i).length : Int) := z2z (by omega)
    by_cases c2 : (Lis.rows l).getD i 0 = Lis.most l - ((Lis.sel l i).length : Int)
    ·have hb1 : ((Lis.sel l i).length + 1) * 8 <= 140737488355328 := by omega
     have hb2 : (Lis.sel l i).length + 1 <= maxLen := by unfold maxLen; omega
     have F : (Lis.sel l i).length <= 9223372036854775806 := by omega
     have fin : (Lis.sel l i = [] \/ l.getD ((Lis.sel l i).getLastD 0) 0 < l.getD i 0) -> Lis.sel l (i + 1) = Lis.sel l i ++ [i] := by
      intro h; rw [hs]; unfold Lis.sel1; rw [if_pos ⟨c1, c2, h⟩]
     have fin2 : ¬ (Lis.sel l i = [] \/ l.getD ((Lis.sel l i).getLastD 0) 0 < l.getD i 0) -> Lis.sel l (i + 1) = Lis.sel l i := by
      intro h; rw [hs]; unfold Lis.sel1; rw [if_neg (fun h' => h h'.2.2)]
     by_cases c3 : Lis.sel l i = []
     ·have c3' : ((Lis.sel l i).length : Int) = 0 := by rw [c3]; rfl
      rw [c3'] at c1 c2 wm
      (refine zqe (by decide +kernel) fun K hK => ?_); (simp only [go_sem, Nat.reduceBEq, Nat.reduceBeqDiff, Nat.reduceEqDiff, ↓reduceIte, reduceCtorEq, Nat.reduceAdd, Nat.reduceMul, Nat.reduceLeDiff, Nat.reduceLT, Int.reduceLT, Int.reduceLE, Int.reduceEq, h7, h4, c1, h3, hH, hin, hrl, hri, wm, c2, c3']); (refine hK _ ?_); (clear hK K)
      refine zqm true rfl (fun _ => ?_) (fun hc => (by cases hc))
      (refine z32 ?_); (simp only [go_sem, Nat.reduceBEq, Nat.reduceBeqDiff, Nat.reduceEqDiff, ↓reduceIte, reduceCtorEq, Nat.reduceAdd, Nat.reduceMul, Nat.reduceLeDiff, Nat.reduceLT, Int.reduceLT, Int.reduceLE, Int.reduceEq, h7, hH1, hb1, hb2, F])
      refine (show K5 _ from tail _ h0 h3 hH h4 h62 h63 ?_ ?_)
      ·rw [fin (.inl c3), List.length_append]; rfl
      ·rw [fin (.inl c3), List.length_append, List.map_append]; rfl
     ·have hpos : 0 < (Lis.sel l i).length := List.length_pos_iff.2 c3
      have c3' : ¬ ((Lis.sel l i).length : Int) = 0 := by omega
      have wl : IntKind.i64.wrap (((Lis.sel l i).length : Int) - 1) = (((Lis.sel l i).length - 1 : Nat) : Int) := by rw [z2z (by omega)]; omega
      have hcc : (((Lis.sel l i).length - 1 : Nat) : Int) < ((Lis.sel l i).length : Int) := by omega
      have hlast : (Lis.sel l i)[(Lis.sel l i).length - 1]? = some ((Lis.sel l i).getLastD 0) := by
       rw [List.getLastD_eq_getLast?, List.getLast?_eq_getElem?, List.getElem?_eq_getElem (by omega)]; rfl
      have hlt : (Lis.sel l i).getLastD 0 < l.length := by
       have := Lis.sel_lt l i _ (List.mem_of_getElem? hlast); omega
      have i2 := z3d (D.int .i64) l _ hlt
      have hle1 : (Lis.sel l i).length - 1 < (Lis.sel l i).length := by omega
      by_cases c4 : l[(Lis.sel l i).getLastD 0] < l[i]
      ·(refine zqe (by decide +kernel) fun K hK => ?_); (simp only [go_sem, Nat.reduceBEq, Nat.reduceBeqDiff, Nat.reduceEqDiff, ↓reduceIte, reduceCtorEq, Nat.reduceAdd, Nat.reduceMul, Nat.reduceLeDiff, Nat.reduceLT, Int.reduceLT, Int.reduceLE, Int.reduceEq, h7, h4, c1, h3, hH, hin, hrl, hri, wm, c2, c3', h0, z8p, i1, i2, wl, hcc, hH1, hlast, c4]); (refine hK _ ?_); (clear hK K)
       have c4' : l.getD ((Lis.sel l i).getLastD 0) 0 < l.getD i 0 := by
        rw [List.getD_eq_getElem?_getD, List.getD_eq_getElem?_getD, List.getElem?_eq_getElem hlt, List.getElem?_eq_getElem hi']
        exact c4
       refine zqm true rfl (fun _ => ?_) (fun hc => (by cases hc))
       (refine z32 ?_); (simp only [go_sem, Nat.reduceBEq, Nat.reduceBeqDiff, Nat.reduceEqDiff, ↓reduceIte, reduceCtorEq, Nat.reduceAdd, Nat.reduceMul, Nat.reduceLeDiff, Nat.reduceLT, Int.reduceLT, Int.reduceLE, Int.reduceEq, h7, hH1, hb1, hb2, F])
       refine (show K5 _ from tail _ h0 h3 hH h4 h62 h63 ?_ ?_)
       ·rw [fin (.inr c4'), List.length_append]; rfl
       ·rw [fin (.inr c4'), List.length_append, List.map_append]; rfl
      ·(refine zqe (by decide +kernel) fun K hK => ?_); (simp only [go_sem, Nat.reduceBEq, Nat.reduceBeqDiff, Nat.reduceEqDiff, ↓reduceIte, reduceCtorEq, Nat.reduceAdd, Nat.reduceMul, Nat.reduceLeDiff, Nat.reduceLT, Int.reduceLT, Int.reduceLE, Int.reduceEq, h7, h4, c1, h3, hH, hin, hrl, hri, wm, c2, c3', h0, z8p, i1, i2, wl, hcc, hH1, hlast, c4]); (refine hK _ ?_); (clear hK K)
       refine zqm false rfl (fun hc => (by cases hc)) (fun _ => ?_)
       have c4' : ¬ (Lis.sel l i = [] \/ l.getD ((Lis.sel l i).getLastD 0) 0 < l.getD i 0) := by
        rintro (h | h)
        ·exact c3 h
        ·apply c4
         rw [List.getD_eq_getElem?_getD, List.getD_eq_getElem?_getD, List.getElem?_eq_getElem hlt, List.getElem?_eq_getElem hi'] at h
         exact h
       refine zqk ?_
       refine tail _ h0 h3 hH h4 h62 h63 ?_ ?_
       ·rw [fin2 c4']; exact h7
       ·rw [fin2 c4']; exact hH1
    ·(refine zqe (by decide +kernel) fun K hK => ?_); (simp only [go_sem, Nat.reduceBEq, Nat.reduceBeqDiff, Nat.reduceEqDiff, ↓reduceIte, reduceCtorEq, Nat.reduceAdd, Nat.reduceMul, Nat.reduceLeDiff, Nat.reduceLT, Int.reduceLT, Int.reduceLE, Int.reduceEq, h7, h4, c1, h3, hH, hin, hrl, hri, wm, c2]); (refine hK _ ?_); (clear hK K)
     refine zqm false rfl (fun hc => (by cases hc)) (fun _ => ?_)
     refine zqk ?_
     refine tail _ h0 h3 hH h4 h62 h63 ?_ ?_
     ·rw [hs]; unfold Lis.sel1; rw [if_neg (fun h => c2 h.2.1)]; exact h7
     ·rw [hs]; unfold Lis.sel1; rw [if_neg (fun h => c2 h.2.1)]; exact hH1
   ·(refine zqe (by decide +kernel) fun K hK => ?_); (simp only [go_sem, Nat.reduceBEq, Nat.reduceBeqDiff, Nat.reduceEqDiff, ↓reduceIte, reduceCtorEq, Nat.reduceAdd, Nat.reduceMul, Nat.reduceLeDiff, Nat.reduceLT, Int.reduceLT, Int.reduceLE, Int.reduceEq, h7, h4, c1]); (refine hK _ ?_); (clear hK K)
    refine zqm false rfl (fun hc => (by cases hc)) (fun _ => ?_)
    refine zqk ?_
    refine tail _ h0 h3 hH h4 h62 h63 ?_ ?_
    ·rw [hs]; unfold Lis.sel1; rw [if_neg (fun h => c1 h.1)]; exact h7
    ·rw [hs]; unfold Lis.sel1; rw [if_neg (fun h => c1 h.1)]; exact hH1
  ·refine zql ?_
   show K3 _
   refine hK3 _ ?_
   (refine zqh fun K hK => ?_); (simp only [go_sem, Nat.reduceBEq, Nat.reduceBeqDiff, Nat.reduceEqDiff, ↓reduceIte, reduceCtorEq, Nat.reduceAdd, Nat.reduceMul, Nat.reduceLeDiff, Nat.reduceLT, Int.reduceLT, Int.reduceLE, Int.reduceEq, h7]); (refine hK _ ?_); (clear hK K)
   (refine zqn ?_); (refine Exists.intro _ (And.intro rfl ?_))
   obtain rfl : i = l.length := by omega
   refine zx4 0 hH1 z2r z5o (by simp) (z0g (fun _ => rfl) _) ?_
   simp only [Lis.lis]
   rw [if_neg (by omega), List.map_map]
   rfl
end
section
open Abs Facts Tr
attribute [local irreducible] awp
set_option maxRecDepth 100000
namespace Tr
theorem par_no {A : T} {i : Idv} (h : z23 i A = false) : (zed i A).2.2 = false := by
 rw [z1q, decide_eq_false_iff_not, <- z6q] at h
 unfold zed
 simp [h]
def z9w (A u : T) (i : Nat) : List T := (u.kids.take i).filter (z4h A u)
theorem znq {A u : T} {i : Nat} (h : i < u.kids.length) : z9w A u (i + 1) = z9w A u i ++ if z4h A u u.kids[i] = true then [u.kids[i]] else [] := by
 unfold z9w
 rw [List.take_succ_eq_append_getElem h, List.filter_append]
 congr 1
 split <;> simp_all
theorem zm0 (A u : T) (i : Nat) : (z9w A u i).length <= i := by
 unfold z9w
 refine Nat.le_trans (List.length_filter_le _ _) ?_
 rw [List.length_take]; omega
theorem zir (A u : T) : z9w A u u.kids.length = z4k A u := by unfold z9w z4k; rw [List.take_length]
end Tr
open Tr
theorem zav (l : List Idv) : z5v (.map (setI l)) = true := by
 show (pureD.pureL ((setI l).map (·.1)) && pureD.pureL ((setI l).map (·.2))) = true
 unfold setI
 rw [List.map_map, List.map_map, Bool.and_eq_true]
 exact ⟨z0g (fun _ => rfl) _, z0g (fun i => rfl) _⟩
set_option maxHeartbeats 16000000 in
theorem zus (A B u : T) (p q : Nat) (na : (idsT A).Nodup) (hu : szB u = true) (hk0 : ∀ k ∈ u.kids, ¬ A.id = k.id) (hnk : (u.kids.map T.id).Nodup) (H : HM) (nx : Nat) (hp : p < nx) (hHp : H p = some (.map (mapI encPl (plcs A)))) :
  AC prog 78 [.agg (cellsPr A B p q), z1n u] H nx fun r' H' nx' => r' = renD (fun j => nx + j) (.mp 0) /\ H' = zhh H nx [.map (setI (z2j A u))] /\ nx' = nx + 1 := by
 obtain ⟨h0, h1, g1, h2, g2, h3, h4⟩ := (z4i u).1 hu
 have e0 := z03 hp
 have hb0 : z9w A u 0 = [] := rfl
 refine zpy rfl (fun o ho => by rw [List.mem_singleton] at ho; subst ho; exact zav _) (z2o [5, 6, 3000050, 3000055] func78 rfl (by decide +kernel) rfl ?_)
 show awp _ _ (Code.seq _ _) _ _
 repeat' (first | refine zqj ?_ | ((refine zqh fun K hK => ?_); (simp (disch := omega) only [go_sem, Nat.reduceBEq, ↓reduceIte, reduceCtorEq, Nat.reduceAdd, e0])) | refine zqa ?_ | (refine hK _ ?_; clear hK K))
 (refine z8h (fun U st => ∃ (i : Nat), U = u.kids.length - i /\ st.t 2 = .ptr nx 0 /\ st.t 3 = .ptr (nx + 1) 0 /\ st.t 5 = .osl (nx + 2) (z9w A u i).length /\ st.t 6 = .osl (nx + 3) (z9w A u i).length /\ st.t 17 = z0t u.kids /\ st.t 18 = .int .i64 u.kids.length /\ st.t 19 = .int .i64 i /\ st.H (nx) = some (.box 100 (cellsPr A B p q)) /\ st.H (nx + 1) = some (.box 27 (z08 u)) /\ st.H (nx + 2) = some (.row 23 (z9w A u i).length (((z9w A u i).map T.id).flatMap cellsId)) /\ st.H (nx + 3) = some (.row 3 (z9w A u i).length ((z9w A u i).map fun k => .int .i64 (zed k.id A).2.1)) /\ st.H (p) = some (.map (mapI encPl (plcs A))) /\ (i <= u.kids.length) /\ (nx + 4 <= st.nx) /\ (∀ id, id < nx -> st.H id = H id)) ?_ ?_); rotate_left; (rintro U st ⟨i, rfl, v2, v3, v5, v6, v17, v18, v19, vHnx, vHnx1, vHnx2, vHnx3, vHp, vp0, vp1, vp2⟩); rotate_left
 ·(refine ⟨_, 0, rfl, ?_⟩); (simp (disch := omega) only [go_sem, Nat.reduceBEq, Nat.reduceLeDiff, true_and, Int.natCast_zero, List.flatMap_nil, List.map_nil, z0t, e0, hb0])
  exact ⟨hHp, Nat.le_refl _, fun id hid => by simp (disch := omega) only [z0c]⟩
 have s0 := z03 (show nx < st.nx by omega)
 have s1 := z03 (show nx + 1 < st.nx by omega)
 have s2 := z03 (show nx + 2 < st.nx by omega)
 have s3 := z03 (show nx + 3 < st.nx by omega)
 have sp := z03 (show p < st.nx by omega)
 by_cases hi : i < u.kids.length
 ·have hs := znq (A := A) hi
  have hle := zm0 A u i
  have O := hk0 _ (List.getElem_mem hi)
  rcases zg6 na u.kids[i].id with ⟨hA, x, hxu, hxp, n, hf⟩ | ⟨hA, hf⟩
  ·have hxp := hxp O
   by_cases hpu : x.par = u.id
   ·rcases zg6 na u.id with ⟨hA2, y, _, _, n2, hf2⟩ | ⟨hA2, hf2⟩
    ·have hun : z4h A u u.kids[i] = true := by unfold z4h; rw [hA2, hxp]; simp [hpu]
     rw [hun, if_pos rfl] at hs
     repeat' (first | ((first | refine zqh fun K hK => ?_ | refine zqq (by decide +kernel) fun K hK => ?_); (simp (disch := omega) only [go_sem, Nat.reduceBEq, Nat.reduceEqDiff, ↓reduceIte, reduceCtorEq, Nat.reduceAdd, Nat.reduceMul, Nat.reduceLeDiff, Nat.reduceLT, v2, v3, v5, v6, v17, v18, v19, vHnx, vHnx1, vHnx2, vHnx3, vHp, e0, s0, s1, s2, s3, sp, z0t, hf, hf2, hpu])) | ((first | refine zqd _ rfl (fun hc => ?_) (fun hc => ?_) | refine zqm _ rfl (fun hc => ?_) (fun hc => ?_)) <;> (first | (cases hc; done) | ((try simp only [z0e] at hc); (try omega)))) | refine zqa ?_ | refine zqb ?_ | refine zqv ?_ | refine zqy ?_ | (refine hK _ ?_; clear hK K))
     refine ⟨_, SealTo.refl _, ?_⟩
     repeat' (first | ((refine zqr fun K hK => ?_); (simp (disch := omega) only [go_sem, Nat.reduceBEq, ↓reduceIte, v19])) | (refine hK _ ?_; clear hK K))
     (refine Exists.intro _ (And.intro ?_ ⟨i + 1, rfl, ?_⟩)); rotate_left; (simp (disch := omega) only [go_sem, Nat.reduceBEq, Nat.reduceLeDiff, v2, v3, v5, v6, v17, v18, v19, vHnx, vHnx1, vHnx2, vHnx3, vHp, true_and, Int.natCast_add, Int.natCast_one, List.flatMap_append, List.flatMap_cons, List.flatMap_nil, List.map_append, List.map_cons, List.map_nil, List.append_nil, e0, s0, s1, s2, s3, sp, hs, hxp, cellsId, List.length_append, List.length_cons, List.length_nil]); rotate_left
     ·omega
     ·exact ⟨by omega, by omega, fun id hid => by simp (disch := omega) only [z0c]; exact vp2 id hid⟩
    ·have hun : z4h A u u.kids[i] = false := by unfold z4h; rw [hA2]; rfl
     rw [hun, if_neg (by decide), List.append_nil] at hs
     repeat' (first | ((refine zqh fun K hK => ?_); (simp (disch := omega) only [go_sem, Nat.reduceBEq, ↓reduceIte, reduceCtorEq, Nat.reduceAdd, Nat.reduceLeDiff, v2, v3, v17, v18, v19, vHnx, vHnx1, vHp, s0, s1, sp, z0t, hf, hf2, hpu])) | ((first | refine zqd _ rfl (fun hc => ?_) (fun hc => ?_) | refine zqm _ rfl (fun hc => ?_) (fun hc => ?_)) <;> (first | (cases hc; done) | ((try simp only [z0e] at hc); (try omega)))) | refine zqa ?_ | refine zqb ?_ | refine zqk ?_ | refine zqv ?_ | refine zqy ?_ | (refine hK _ ?_; clear hK K))
     refine ⟨_, SealTo.refl _, ?_⟩
     repeat' (first | ((refine zqr fun K hK => ?_); (simp (disch := omega) only [go_sem, Nat.reduceBEq, ↓reduceIte, v19])) | (refine hK _ ?_; clear hK K))
     (refine Exists.intro _ (And.intro ?_ ⟨i + 1, rfl, ?_⟩)); rotate_left; (simp (disch := omega) only [go_sem, Nat.reduceBEq, Nat.reduceLeDiff, v2, v3, v5, v6, v17, v18, v19, vHnx, vHnx1, vHnx2, vHnx3, vHp, true_and, Int.natCast_add, Int.natCast_one, s0, s1, s2, s3, sp, hs]); rotate_left
     ·omega
     ·exact ⟨by omega, by omega, fun id hid => by simp (disch := omega) only [z0c]; exact vp2 id hid⟩
   ·have hun : z4h A u u.kids[i] = false := by unfold z4h; rw [hxp]; simp [hpu]
    rw [hun, if_neg (by decide), List.append_nil] at hs
    repeat' (first | ((refine zqh fun K hK => ?_); (simp (disch := omega) only [go_sem, Nat.reduceBEq, ↓reduceIte, reduceCtorEq, Nat.reduceAdd, Nat.reduceLeDiff, v2, v3, v17, v18, v19, vHnx, vHnx1, vHp, s0, s1, sp, z0t, hf, hpu])) | ((first | refine zqd _ rfl (fun hc => ?_) (fun hc => ?_) | refine zqm _ rfl (fun hc => ?_) (fun hc => ?_)) <;> (first | (cases hc; done) | ((try simp only [z0e] at hc); (try omega)))) | refine zqa ?_ | refine zqb ?_ | refine zqk ?_ | refine zqv ?_ | refine zqy ?_ | (refine hK _ ?_; clear hK K))
    refine ⟨_, SealTo.refl _, ?_⟩
    repeat' (first | ((refine zqr fun K hK => ?_); (simp (disch := omega) only [go_sem, Nat.reduceBEq, ↓reduceIte, v19])) | (refine hK _ ?_; clear hK K))
    (refine Exists.intro _ (And.intro ?_ ⟨i + 1, rfl, ?_⟩)); rotate_left; (simp (disch := omega) only [go_sem, Nat.reduceBEq, Nat.reduceLeDiff, v2, v3, v5, v6, v17, v18, v19, vHnx, vHnx1, vHnx2, vHnx3, vHp, true_and, Int.natCast_add, Int.natCast_one, s0, s1, s2, s3, sp, hs]); rotate_left
    ·omega
    ·exact ⟨by omega, by omega, fun id hid => by simp (disch := omega) only [z0c]; exact vp2 id hid⟩
  ·have hun : z4h A u u.kids[i] = false := by unfold z4h; rw [par_no hA]; simp
   rw [hun, if_neg (by decide), List.append_nil] at hs
   repeat' (first | ((refine zqh fun K hK => ?_); (simp (disch := omega) only [go_sem, Nat.reduceBEq, ↓reduceIte, reduceCtorEq, Nat.reduceAdd, Nat.reduceLeDiff, v2, v17, v18, v19, vHnx, vHp, s0, sp, z0t, hf])) | ((first | refine zqd _ rfl (fun hc => ?_) (fun hc => ?_) | refine zqm _ rfl (fun hc => ?_) (fun hc => ?_)) <;> (first | (cases hc; done) | ((try simp only [z0e] at hc); (try omega)))) | refine zqa ?_ | refine zqb ?_ | refine zqk ?_ | refine zqv ?_ | refine zqy ?_ | (refine hK _ ?_; clear hK K))
   refine ⟨_, SealTo.refl _, ?_⟩
   repeat' (first | ((refine zqr fun K hK => ?_); (simp (disch := omega) only [go_sem, Nat.reduceBEq, ↓reduceIte, v19])) | (refine hK _ ?_; clear hK K))
   (refine Exists.intro _ (And.intro ?_ ⟨i + 1, rfl, ?_⟩)); rotate_left; (simp (disch := omega) only [go_sem, Nat.reduceBEq, Nat.reduceLeDiff, v2, v3, v5, v6, v17, v18, v19, vHnx, vHnx1, vHnx2, vHnx3, vHp, true_and, Int.natCast_add, Int.natCast_one, s0, s1, s2, s3, sp, hs]); rotate_left
   ·omega
   ·exact ⟨by omega, by omega, fun id hid => by simp (disch := omega) only [z0c]; exact vp2 id hid⟩
 ·repeat' (first | ((refine zqh fun K hK => ?_); (simp (disch := omega) only [go_sem, ↓reduceIte, v18, v19])) | (refine zqd _ rfl ?_ ?_ <;> intro hc <;> (((try simp only [z0e] at hc); (try omega)))) | refine zqc ?_ | refine zqv ?_ | refine zqz ?_ | refine zqp ?_ | (refine hK _ ?_; clear hK K))
  have hil : i = u.kids.length := by omega
  subst hil
  rw [zir] at v5 v6 vHnx2 vHnx3
  have hlen : (z4k A u).length <= 1000000 := by have := zm0 A u u.kids.length; rw [zir] at this; omega
  have hats : ((z4k A u).map fun k => D.int .i64 (zed k.id A).2.1) = (zao A u).map (D.int .i64) := by unfold zao; rw [List.map_map]; rfl
  rw [hats] at vHnx3
  have cl := pc11 (zao A u) (by unfold maxLen zao; rw [List.length_map]; omega)
  have hl1 : D.rsl false (z00 prog 3) (z1e (z02 prog 3) (z00 prog 3) (z4k A u).length ((zao A u).map (D.int .i64))) = z8p (zao A u) := by
   have h5 : (z4k A u).length = ((zao A u).map (D.int .i64)).length := by unfold zao; simp
   rw [z2r, z5o, h5, z7z]; rfl
  have hl2 : D.rsl false (z00 prog 23) (z1e (z02 prog 23) (z00 prog 23) (z4k A u).length (((z4k A u).map T.id).flatMap cellsId)) = z48 ((z4k A u).map T.id) := by
   have := z4r (f := cellsId) (sz := 3) (fun _ => rfl) ((z4k A u).map T.id)
   rw [List.length_map] at this
   rw [zci, zhe, this]; rfl
  refine ⟨_, SealTo.trans (zra (id := nx + 3) (j := 6) (e := 3) (n := (z4k A u).length) (cs := (zao A u).map (D.int .i64)) (by (simp (disch := omega) only [go_sem, vHnx3])) (by decide +kernel) (z0g (fun _ => rfl) _) (by (simp (disch := omega) only [go_sem, Nat.reduceBEq, v6]))) (zra (id := nx + 2) (j := 5) (e := 23) (n := (z4k A u).length) (cs := ((z4k A u).map T.id).flatMap cellsId) (by (simp (disch := omega) only [go_sem, vHnx2, e0])) (by decide +kernel) (z0y (fun _ => rfl) _) (by (simp (disch := omega) only [go_sem, Nat.reduceBEq, v5]))), ?_⟩
  rw [hl1, hl2]
  obtain ⟨ids, hids⟩ : ∃ ids, ids = (z4k A u).map T.id := ⟨_, rfl⟩
  obtain ⟨L, hL⟩ : ∃ L, L = Lis.lis (zao A u) := ⟨_, rfl⟩
  have hSe : z2j A u = L.map fun n => ids.getD n Idv.zero := by rw [hids, hL]; rfl
  have hLl : ∀ n ∈ L, n < ids.length := fun n hn => by rw [hL] at hn; have := (Lis.lis_rise (zao A u)).2 n hn; rw [hids]; simpa [zao] using this
  have hSn : (z2j A u).Nodup := (zgg u).nodup hnk
  have hSl : (z2j A u).length = L.length := by rw [hSe, List.length_map]
  have hLb : L.length <= 1000000 := by rw [<- hSl]; have h5 := (zgg (A := A) u).length_le; rw [List.length_map] at h5; omega
  rw [<- hL] at cl
  rw [<- hids]
  repeat' (first | refine zqj ?_ | ((first | refine zqh fun K hK => ?_ | refine zqs (cl) ?_); (simp (disch := omega) only [go_sem, Nat.reduceBEq, v6])) | refine zqa ?_ | (refine hK _ ?_; clear hK K))
  obtain ⟨m0, hm0⟩ : ∃ m0, m0 = st.nx := ⟨_, rfl⟩
  (refine z8h (fun U st => ∃ (i : Nat), U = L.length - i /\ st.t 5 = z48 ids /\ st.t 13 = .mp m0 /\ st.t 61 = z8p (L.map fun (n : Nat) => (n : Int)) /\ st.t 62 = .int .i64 L.length /\ st.t 63 = .int .i64 i /\ st.H (m0) = some (.map (setI ((z2j A u).take i))) /\ (i <= L.length) /\ (m0 < st.nx) /\ (∀ id, id < nx -> st.H id = H id)) ?_ ?_); rotate_left; (rintro U st ⟨i, rfl, w5, w13, w61, w62, w63, wHm0, wp0, wp1, wp2⟩); rotate_left
  ·(refine ⟨_, 0, rfl, ?_⟩); (simp (disch := omega) only [go_sem, Nat.reduceBEq, v5, true_and, Int.natCast_zero, z8p, s2, s3, hm0])
   exact ⟨rfl, Nat.lt_succ_self _, fun id hid => by simp (disch := omega) only [z0c]; exact vp2 id hid⟩
  have f0 := z03 wp1
  by_cases hi : i < L.length
  ·have hlt := hLl _ (List.getElem_mem hi)
   have hSi : (z2j A u)[i]'(by omega) = ids[L[i]] := by simp only [hSe, List.getElem_map]; simp [List.getD, hlt]
   have hnew : ids[L[i]] ∉ (z2j A u).take i := by
    rw [<- hSi]
    intro hmem
    obtain ⟨j, hj, e⟩ := List.getElem_of_mem hmem
    rw [List.length_take] at hj
    rw [List.getElem_take] at e
    have := (List.getElem_inj hSn).1 e
    omega
   have hfk := zbe ids[L[i]] ((z2j A u).take i)
   rw [if_neg hnew] at hfk
   have hsn := z9f ((z2j A u).take i) ids[L[i]]
   have htk : (z2j A u).take (i + 1) = (z2j A u).take i ++ [ids[L[i]]] := by rw [List.take_succ_eq_append_getElem (by omega), hSi]
   repeat' (first | ((first | refine zqh fun K hK => ?_ | refine zqr fun K hK => ?_); (simp (disch := omega) only [go_sem, Nat.reduceBEq, ↓reduceIte, reduceCtorEq, Nat.reduceAdd, w5, w13, w61, w62, w63, wHm0, z48, z8p, hfk, hsn, Function.comp_apply])) | (refine zqd _ rfl ?_ ?_ <;> intro hc <;> (((try simp only [z0e] at hc); (try omega)))) | refine zqa ?_ | refine zqb ?_ | refine zqv ?_ | refine zqy ?_ | (refine hK _ ?_; clear hK K))
   refine ⟨_, SealTo.refl _, ?_⟩
   repeat' (first | ((refine zqr fun K hK => ?_); (simp (disch := omega) only [go_sem, Nat.reduceBEq, ↓reduceIte, w63])) | (refine hK _ ?_; clear hK K))
   (refine Exists.intro _ (And.intro ?_ ⟨i + 1, rfl, ?_⟩)); rotate_left; (simp (disch := omega) only [go_sem, Nat.reduceBEq, w5, w13, w61, w62, w63, wHm0, true_and, Int.natCast_add, Int.natCast_one, htk]); rotate_left
   ·omega
   ·exact ⟨by omega, by omega, fun id hid => by simp (disch := omega) only [z0c]; exact wp2 id hid⟩
  ·repeat' (first | ((refine zqh fun K hK => ?_); (simp (disch := omega) only [go_sem, ↓reduceIte, w62, w63])) | (refine zqd _ rfl ?_ ?_ <;> intro hc <;> (((try simp only [z0e] at hc); (try omega)))) | refine zqc ?_ | refine zqv ?_ | refine zqz ?_ | refine zqp ?_ | (refine hK _ ?_; clear hK K))
   refine ⟨_, SealTo.refl _, ?_⟩
   repeat' (first | ((refine zqh fun K hK => ?_); (simp (disch := omega) only [go_sem, Nat.reduceBEq, w13])) | refine zqn ?_ | refine zqu (by simp only [go_sem]; rfl) rfl ?_ | (refine hK _ ?_; clear hK K))
   have hta : (z2j A u).take i = z2j A u := List.take_of_length_le (by omega)
   rw [hta] at wHm0
   refine ⟨fun id hid => ?_, fun _ => m0, fun i j hi hj _ => ?_, fun _ _ => ?_, ?_, fun j hj => ?_⟩
   ·(simp (disch := omega) only [go_sem])
    exact wp2 id hid
   ·simp only [List.length_cons, List.length_nil] at hi hj; omega
   ·show nx <= m0; omega
   ·rfl
   ·simp only [List.length_cons, List.length_nil] at hj
    obtain rfl : j = 0 := by omega
    (simp (disch := omega) only [go_sem, wHm0])
end
section
open Abs Facts Tr
attribute [local irreducible] awp
set_option maxRecDepth 100000
def z7k (A B : T) : List HObj := if z9g A B = true then [.map (mapI encPl (plcs A)), .map (mapI encPl (plcs B))] else []
def z91 (A B : T) : D := .tup [.agg (if z9g A B = true then cellsPr A B 0 1 else zeroPr), .bool (z9g A B)]
def zdc (A : T) (e : Idv × Plc) : Bool := !z23 e.1 A || decide ((findR e.1 A).1.kind = e.2.unit.kind)
theorem zup {A B : T} (na : (idsT A).Nodup) (nb : (idsT B).Nodup) (h : ∀ (i : Nat) (e : Idv × Plc), (plcs B)[i]? = some e -> zdc A e = true) : z4f A B = true := by
 unfold z4f
 rw [List.all_eq_true]
 intro x hx
 by_cases hB : z23 x.id B = true
 ·have hm : x.id ∈ idsT B := by rw [z1q, decide_eq_true_eq] at hB; exact hB
  obtain ⟨p, h1, h2, _⟩ := zw4 nb hm
  obtain ⟨i, hi, e⟩ := List.getElem_of_mem h1
  have h3 := h i _ (by rw [List.getElem?_eq_getElem hi, e])
  unfold zdc at h3
  have hA : z23 x.id A = true := by rw [z1q, decide_eq_true_eq]; exact List.mem_map.2 ⟨x, hx, rfl⟩
  simp only [hA, Bool.not_true, Bool.false_or, decide_eq_true_eq, h2] at h3
  rw [z0x na hx rfl] at h3
  simp only at h3
  simp [h3]
 ·simp [hB]
theorem zuq {A B : T} (na : (idsT A).Nodup) (nb : (idsT B).Nodup) {i : Nat} {e : Idv × Plc} (he : (plcs B)[i]? = some e) (h : zdc A e = false) : z4f A B = false := by
 obtain ⟨h1, h2⟩ := zpg B e (List.mem_of_getElem? he)
 cases O : z4f A B with
 | false => rfl
 | true =>
  unfold z4f at O
  rw [List.all_eq_true] at O
  unfold zdc at h
  simp only [Bool.or_eq_false_iff, Bool.not_eq_false', decide_eq_false_iff_not] at h
  obtain ⟨hA, hne⟩ := h
  have hx := z2i (id := e.1) (u := A) hA
  have hi := zag (id := e.1) (t := A) hA
  have h3 := O _ hx
  rw [hi] at h3
  have hB : z23 e.1 B = true := by rw [z1q, decide_eq_true_eq, <- h2]; exact List.mem_map.2 ⟨_, h1, rfl⟩
  rw [hB, z0x nb h1 h2] at h3
  simp only [Bool.not_true, Bool.false_or, decide_eq_true_eq] at h3
  exact absurd h3.symm hne
theorem zrj {A B : T} {l : List Nat} {i : Nat} {e : Idv × Plc} (h : ∀ i ∈ l, ∀ e, (plcs B)[i]? = some e -> zdc A e = true) (he : (plcs B)[i]? = some e) (O : zdc A e = true) : ∀ i_1 ∈ l ++ [i], ∀ e, (plcs B)[i_1]? = some e -> zdc A e = true := by
 intro j hj e' he'
 rcases List.mem_append.1 hj with hj | hj
 ·exact h j hj e' he'
 ·rw [List.mem_singleton] at hj
  subst hj
  rw [he, Option.some.injEq] at he'
  rw [<- he']; exact O
theorem ren_Pr (σ : Nat -> Nat) (A B : T) (p q : Nat) (b : Bool) : renD σ (.tup [.agg (cellsPr A B p q), .bool b]) = .tup [.agg (cellsPr A B (σ p) (σ q)), .bool b] := by
 rw [z1y, z1y]; rfl
theorem zxv (A B : T) : okD (z7k A B).length (z91 A B) = true := by
 unfold z7k z91
 by_cases h : z9g A B = true
 ·rw [if_pos h, if_pos h, z1y]
  simp [okD, okD.okL, pureD]
  exact ⟨z1t _, z1t _, z8b _, z1t _, z1t _, z8b _⟩
 ·rw [if_neg h, if_neg h]; rfl
theorem znp (A B : T) : ∀ o ∈ z7k A B, z5v o = true := by
 intro o ho
 unfold z7k at ho
 split at ho
 ·simp only [List.mem_cons, List.not_mem_nil, or_false] at ho
  rcases ho with rfl | rfl <;> exact zf7 zat _
 ·cases ho
set_option maxHeartbeats 16000000 in
theorem zur (A B : T) (fa : Fit50 A) (fb : Fit50 B) : OC prog 57 [z1n A, z1n B] (z7k A B) (z91 A B) := by
 have c1 := zls A fa
 have c2 := zls B fb
 have c3 := zdb A fa.sz
 have c4 := zdb B fb.sz
 refine zca (by simp only [pureD.pureL, z0n, Bool.and_self]) (zxv A B) (znp A B) ?_
 refine z9v func57 rfl (by decide +kernel) (by simp [ntmps57]) ?_
 rw [show Tryd.f57.results.toList = [.cell 4 100, .tmp 5] from rfl]
 refine Sem.seq (Sem.walk (own := []) z5z (by decide +kernel) ?_)
 repeat' (first | ((refine zqr fun K hK => ?_); (simp (disch := omega) only [go_sem, Nat.reduceBEq, Nat.reduceAdd])) | refine zqv ?_ | (refine hK _ ?_; clear hK K))
 refine Sem.seq (Sem.walk (own := []) z5z (by decide +kernel) ?_)
 have hcm : z9g A B = (z3r A && (z3r B && z4f A B)) := rfl
 cases ha : z3r A
 ·rw [ha] at c1 hcm
  rw [Bool.false_and] at hcm
  have e1 : z7k A B = [] := by unfold z7k; rw [hcm]; rfl
  have e2 : z91 A B = .tup [.agg zeroPr, .bool false] := by unfold z91; rw [hcm]; rfl
  rw [e1, e2]
  repeat' (first | ((first | refine zqh fun K hK => ?_ | refine zqs (c1) ?_); (simp (disch := omega) only [go_sem, Nat.reduceBEq, ↓reduceIte, Nat.reduceAdd, Nat.reduceLeDiff])) | ((refine zqm _ rfl (fun hc => ?_) (fun hc => ?_)) <;> (first | (cases hc; done) | ((try simp only [] at hc); (try omega)))) | refine zqn ?_ | refine zqx ?_ | refine zqu (by (simp (disch := omega) only [go_sem, Nat.reduceBEq, ↓reduceIte, Nat.reduceLeDiff]); rfl) rfl ?_ | (refine hK _ ?_; clear hK K))
  exact ⟨fun j => j, fun i j hi => (by cases hi), rfl, fun j hj => (by cases hj)⟩
 rw [ha] at c1 hcm
 cases hb2 : z3r B
 ·rw [hb2] at c2 hcm
  rw [Bool.false_and, Bool.and_false] at hcm
  have e1 : z7k A B = [] := by unfold z7k; rw [hcm]; rfl
  have e2 : z91 A B = .tup [.agg zeroPr, .bool false] := by unfold z91; rw [hcm]; rfl
  rw [e1, e2]
  repeat' (first | ((first | refine zqh fun K hK => ?_ | refine zqs (c1) ?_ | refine zqs (c2) ?_); (simp (disch := omega) only [go_sem, Nat.reduceBEq, ↓reduceIte, Nat.reduceAdd, Nat.reduceLeDiff])) | ((refine zqm _ rfl (fun hc => ?_) (fun hc => ?_)) <;> (first | (cases hc; done) | ((try simp only [] at hc); (try omega)))) | refine zqn ?_ | refine zqx ?_ | refine zqu (by (simp (disch := omega) only [go_sem, Nat.reduceBEq, ↓reduceIte, Nat.reduceLeDiff]); rfl) rfl ?_ | (refine hK _ ?_; clear hK K))
  exact ⟨fun j => j, fun i j hi => (by cases hi), rfl, fun j hj => (by cases hj)⟩
 rw [hb2] at c2 hcm
 rw [Bool.true_and, Bool.true_and] at hcm
 repeat' (first | ((first | refine zqh fun K hK => ?_ | refine zqs (c1) ?_ | refine zqs (c2) ?_); (simp (disch := omega) only [go_sem, Nat.reduceBEq, ↓reduceIte, Nat.reduceAdd, Nat.reduceLeDiff])) | ((refine zqm _ rfl (fun hc => ?_) (fun hc => ?_)) <;> (first | (cases hc; done) | ((try simp only [] at hc); (try omega)))) | refine zqk ?_ | refine zqv ?_ | (refine hK _ ?_; clear hK K))
 refine Sem.cutS (fun st => ∃ j1 j2 jb : Nat, (j1 = 4 /\ j2 = 5 /\ jb = 3 \/ j1 = 3 /\ j2 = 5 /\ jb = 4 \/ j1 = 3 /\ j2 = 4 /\ jb = 5) /\ st.nx = 6 /\ st.t 4 = .ptr 2 0 /\ st.t 6 = .ptr jb 0 /\ st.H 2 = some (.box 100 zeroPr) /\ st.H jb = some (.box 100 (cellsPr A B j1 j2)) /\ st.H j1 = some (.map (mapI encPl (plcs A))) /\ st.H j2 = some (.map (mapI encPl (plcs B)))) (zvv (own := [3000020, 3000021, 3000022, 3000024, 4000023, 4000025]) z5z (by decide +kernel) [(0, 1), (0, 2), (0, 3), (0, 4), (0, 5), (0, 7), (1, 0), (1, 2), (1, 3), (1, 4), (1, 5), (1, 7), (2, 0), (2, 1), (2, 4), (2, 5), (2, 7), (4, 0), (4, 1), (4, 2), (4, 3), (4, 7), (7, 6)] (.fork [0, 1, 2, 4] (.run [7, 3, 5, 6, 8]) (.fork [3] (.run [7, 5, 6, 8]) (.run [5, 7, 6, 8]))) (by decide +kernel) (by decide +kernel) ?_) ?_
 ·refine zah ?_ rfl
  (simp (disch := omega) only [go_sem, Nat.reduceBEq, Nat.reduceEqDiff, ↓reduceIte, Nat.reduceAdd, Nat.reduceLeDiff, z8f, zop, List.map_cons, List.map_nil])
  refine ⟨?_, ?_⟩
  ·refine z4v ?_ rfl
   (simp (disch := omega) only [go_sem, Nat.reduceBEq, ↓reduceIte, Nat.reduceAdd, z8f, zop, List.map_cons, List.map_nil])
   refine z8d c3 rfl rfl rfl ?_
   (simp (disch := omega) only [go_sem, Nat.reduceBEq, Nat.reduceAdd])
   refine z8d c4 rfl rfl rfl ?_
   (simp (disch := omega) only [go_sem, Nat.reduceBEq, Nat.reduceEqDiff, ↓reduceIte, Nat.reduceAdd, Nat.reduceLeDiff])
   refine ⟨_, SealTo.refl _, 4, 5, 3, .inl ⟨rfl, rfl, rfl⟩, ?_⟩
   (simp (disch := omega) only [go_sem, Nat.reduceBEq, and_self])
  ·refine zah ?_ rfl
   (simp (disch := omega) only [go_sem, Nat.reduceBEq, z8f, zop, List.map_cons, List.map_nil])
   refine z8d c3 rfl rfl rfl ?_
   (simp (disch := omega) only [go_sem, Nat.reduceAdd])
   refine ⟨?_, ?_⟩
   ·refine z4v ?_ rfl
    (simp (disch := omega) only [go_sem, Nat.reduceBEq, ↓reduceIte, Nat.reduceAdd, z8f, zop, List.map_cons, List.map_nil])
    refine z8d c4 rfl rfl rfl ?_
    (simp (disch := omega) only [go_sem, Nat.reduceBEq, Nat.reduceEqDiff, ↓reduceIte, Nat.reduceAdd, Nat.reduceLeDiff])
    refine ⟨_, SealTo.refl _, 3, 5, 4, .inr (.inl ⟨rfl, rfl, rfl⟩), ?_⟩
    (simp (disch := omega) only [go_sem, Nat.reduceBEq, and_self])
   ·refine z4v ?_ rfl
    (simp (disch := omega) only [go_sem, Nat.reduceBEq, z8f, zop, List.map_cons, List.map_nil])
    refine z8d c4 rfl rfl rfl ?_
    (simp (disch := omega) only [go_sem, Nat.reduceBEq, Nat.reduceEqDiff, ↓reduceIte, Nat.reduceAdd, Nat.reduceLeDiff])
    refine ⟨_, SealTo.refl _, 3, 4, 5, .inr (.inr ⟨rfl, rfl, rfl⟩), ?_⟩
    (simp (disch := omega) only [go_sem, Nat.reduceBEq, and_self])
 rintro st ⟨j1, j2, jb, hj, hnx, h4, h6, H2, Hb, H1, HQ⟩
 have na := ((z1g A).1 ha).2.2
 have nb := ((z1g B).1 hb2).2.2
 have nk : ((plcs B).map (·.1)).Nodup := by rw [zc8]; exact nb
 have d1 : (j2 == 6) = false := z1o (by omega)
 have d2 : (2 == j2) = false := z1o (by omega)
 have d3 : (jb == 6) = false := z1o (by omega)
 have d4 : (jb == j2) = false := z1o (by omega)
 have d5 : (j1 == 6) = false := z1o (by omega)
 have d6 : (j1 == j2) = false := z1o (by omega)
 have d7 : (j2 == 2) = false := z1o (by omega)
 have d8 : (j1 == 2) = false := z1o (by omega)
 have d9 : (jb == 2) = false := z1o (by omega)
 have lt2 : j2 < 6 := by omega
 have lt1 : j1 < 6 := by omega
 have ltb : jb < 6 := by omega
 refine Sem.seq (Sem.rangeL (own := []) 2 z5z rfl rfl rfl ⟨rfl, rfl, rfl⟩ ⟨rfl, rfl, rfl⟩ ⟨rfl, rfl, rfl⟩ ⟨rfl, rfl, rfl⟩ mapT98 (by decide +kernel) (by decide +kernel) (by decide +kernel) ?_)
 (simp (disch := omega) only [go_sem, Nat.reduceBEq, ↓reduceIte, reduceCtorEq, Nat.reduceAdd, h6, Hb, List.take_succ_cons, List.take_zero, List.map_cons, List.map_nil])
 refine ⟨j2, _, rfl, HQ, fun M J => ⟨fun l s => s.H j2 = some M /\ s.H 6 = some (J l) /\ s.t 29 = .it 6 /\ s.t 4 = .ptr 2 0 /\ s.t 6 = .ptr jb 0 /\ s.H 2 = some (.box 100 zeroPr) /\ s.H jb = some (.box 100 (cellsPr A B j1 j2)) /\ s.H j1 = some (.map (mapI encPl (plcs A))) /\ 7 <= s.nx /\ ∀ i ∈ l, ∀ e, (plcs B)[i]? = some e -> zdc A e = true, ?_, ?_, ?_, ?_⟩⟩
 ·rintro l s ⟨g1, g2, g3, _⟩
  refine ⟨g1, ?_, ?_⟩
  ·(simp (disch := omega) only [go_sem, hnx])
   exact g2
  ·(simp (disch := omega) only [go_sem, hnx])
   exact g3
 ·unfold zp2
  (simp (disch := omega) only [go_sem, Nat.reduceBEq, Nat.reduceAdd, Nat.reduceLeDiff, hnx, h4, h6, d1, d2, d3, d4, d5, d6, H2, Hb, H1, and_true, List.not_mem_nil, false_implies, implies_true])
 ·rintro l s i k v ⟨g1, g2, g3, g4, g5, g6, g7, g8, g9, g10⟩ hnd hlt hil hkv
  obtain ⟨e, he, rfl, rfl⟩ := zph nk hkv
  obtain ⟨i1, p1⟩ := e
  have s2 := z03 (show 2 < s.nx by omega)
  have s6 := z03 (show 6 < s.nx by omega)
  have sj1 := z03 (show j1 < s.nx by omega)
  have sj2 := z03 (show j2 < s.nx by omega)
  have sjb := z03 (show jb < s.nx by omega)
  unfold zp3
  rcases zg6 na i1 with ⟨hA, p2, hpu, _, n, hf⟩ | ⟨hA, hf⟩
  ·by_cases O : p2.unit.kind = p1.unit.kind
   ·(simp (disch := omega) only [go_sem, Nat.reduceBEq, ↓reduceIte, Nat.reduceAdd, Nat.reduceLeDiff, hnx])
    repeat' (first | ((refine zqh fun K hK => ?_); (simp (disch := omega) only [go_sem, Nat.reduceBEq, ↓reduceIte, reduceCtorEq, Nat.reduceAdd, Nat.reduceLeDiff, g5, g7, g8, d3, d5, s2, s6, sj1, sjb, hf, O])) | ((refine zqm _ rfl (fun hc => ?_) (fun hc => ?_)) <;> (first | (cases hc; done) | ((try simp only [] at hc); (try omega)))) | refine zqk ?_ | (refine hK _ ?_; clear hK K))
    refine zeq ?_
    (simp (disch := omega) only [go_sem, Nat.reduceBEq, Nat.reduceLeDiff, g1, g2, g3, g4, g5, g6, g7, g8, d1, d3, d5, s2, s6, sj1, sj2, sjb, true_and])
    exact ⟨by omega, zrj g10 he (by unfold zdc; rw [hA, <- hpu, O]; simp)⟩
   ·(simp (disch := omega) only [go_sem, Nat.reduceBEq, ↓reduceIte, Nat.reduceAdd, Nat.reduceLeDiff, hnx])
    repeat' (first | ((refine zqh fun K hK => ?_); (simp (disch := omega) only [go_sem, Nat.reduceBEq, ↓reduceIte, reduceCtorEq, Nat.reduceAdd, Nat.reduceLeDiff, g4, g5, g6, g7, g8, d3, d5, s2, s6, sj1, sjb, hf, O])) | ((refine zqm _ rfl (fun hc => ?_) (fun hc => ?_)) <;> (first | (cases hc; done) | ((try simp only [] at hc); (try omega)))) | refine zqn ?_ | (refine hK _ ?_; clear hK K))
    refine zw2 ?_
    have hkb : z4f A B = false := zuq na nb he (by unfold zdc; rw [hA, <- hpu]; simp [O])
    rw [hkb] at hcm
    have e1 : z7k A B = [] := by unfold z7k; rw [hcm]; rfl
    have e2 : z91 A B = .tup [.agg zeroPr, .bool false] := by unfold z91; rw [hcm]; rfl
    rw [e1, e2]
    repeat' (first | refine zqx ?_ | refine zqu (by (simp (disch := omega) only [go_sem, Nat.reduceBEq, ↓reduceIte, Nat.reduceLeDiff, g4, g6, s2]); rfl) rfl ?_)
    exact ⟨fun j => j, fun i j hi => (by cases hi), rfl, fun j hj => (by cases hj)⟩
  ·(simp (disch := omega) only [go_sem, Nat.reduceBEq, ↓reduceIte, Nat.reduceAdd, Nat.reduceLeDiff, hnx])
   repeat' (first | ((refine zqh fun K hK => ?_); (simp (disch := omega) only [go_sem, Nat.reduceBEq, ↓reduceIte, reduceCtorEq, Nat.reduceAdd, Nat.reduceLeDiff, g5, g7, g8, d3, d5, s2, s6, sj1, sjb, hf])) | ((refine zqm _ rfl (fun hc => ?_) (fun hc => ?_)) <;> (first | (cases hc; done) | ((try simp only [] at hc); (try omega)))) | refine zqk ?_ | (refine hK _ ?_; clear hK K))
   refine zeq ?_
   (simp (disch := omega) only [go_sem, Nat.reduceBEq, Nat.reduceLeDiff, g1, g2, g3, g4, g5, g6, g7, g8, d1, d3, d5, s2, s6, sj1, sj2, sjb, true_and])
   exact ⟨by omega, zrj g10 he (by unfold zdc; rw [hA]; rfl)⟩
 ·rintro l s ⟨g1, g2, g3, g4, g5, g6, g7, g8, g9, g10⟩ hnd hlt hall
  unfold zjz
  refine zqv (Sem.walk (own := []) z5z (by decide +kernel) ?_)
  repeat' (first | ((refine zqh fun K hK => ?_); (simp (disch := omega) only [go_sem, Nat.reduceBEq, ↓reduceIte, Nat.reduceAdd, Nat.reduceLeDiff, g4, g5, g6, g7, d2, d4])) | refine zqn ?_ | refine zqu (by (simp (disch := omega) only [go_sem, Nat.reduceBEq, ↓reduceIte, Nat.reduceLeDiff, g4, g6, d2]); rfl) rfl ?_ | (refine hK _ ?_; clear hK K))
  have hkt : z4f A B = true := zup na nb fun i e he => by
   have hi := (List.getElem?_eq_some_iff.1 he).1
   exact g10 i (hall i (by rw [zhx nk]; exact hi)) e he
  rw [hkt] at hcm
  have e1 : z7k A B = [.map (mapI encPl (plcs A)), .map (mapI encPl (plcs B))] := by unfold z7k; rw [hcm]; rfl
  have e2 : z91 A B = .tup [.agg (cellsPr A B 0 1), .bool true] := by unfold z91; rw [hcm]; rfl
  rw [e1, e2]
  refine ⟨fun j => if j = 0 then j1 else j2, fun i j hi hj h => ?_, ?_, fun j hj => ?_⟩
  ·simp only [List.length_cons, List.length_nil] at hi hj
   simp only at h
   split at h <;> split at h <;> omega
  ·rw [ren_Pr]; rfl
  ·simp only [List.length_cons, List.length_nil] at hj
   rcases (show j = 0 \/ j = 1 by omega) with rfl | rfl
   ·(simp (disch := omega) only [go_sem, ↓reduceIte, g8, d6, d8])
   ·(simp (disch := omega) only [go_sem, ↓reduceIte, reduceCtorEq, d7])
namespace Abs
theorem zhi {P : Program} {n : FuncId} {args cap : List D} {g : List Oper -> (St -> Prop) -> St -> Prop} {rest : List Oper} {K : St -> Prop} {st : St} {dst : Option Nat} {objs : List HObj} {r : D} (h : AC P n (args ++ cap) st.H st.nx fun r' H2 n2 => r' = renD (fun j => st.nx + j) r /\ H2 = zhh st.H st.nx objs /\ n2 = st.nx + objs.length)
  (O : g rest K ((st.withH (zhh st.H st.nx objs) (st.nx + objs.length)).put dst (renD (fun j => st.nx + j) r))) : ze5 P (.fn n cap) args g rest K st dst :=
 z2v (h.mono fun r' H2 n2 ⟨h1, h2, h3⟩ => by subst h1; subst h2; subst h3; exact O)
end Abs
namespace Tr
theorem zhj {S l l' : List Idv} {ls : List Nat} {i : Nat} {c : Idv} (h : ∀ x, x ∈ l' ↔ x ∈ l \/ ∃ j ∈ ls, S[j]? = some x) (hc : S[i]? = some c) : (c ∈ l' -> ∀ x, x ∈ l' ↔ x ∈ l \/ ∃ j ∈ ls ++ [i], S[j]? = some x) /\ (∀ x, x ∈ l' ++ [c] ↔ x ∈ l \/ ∃ j ∈ ls ++ [i], S[j]? = some x) := by
 have key : ∀ x, (∃ j ∈ ls ++ [i], S[j]? = some x) ↔ (∃ j ∈ ls, S[j]? = some x) \/ x = c := fun x => by
  constructor
  ·rintro ⟨j, hj, e⟩
   rcases List.mem_append.1 hj with hj | hj
   ·exact .inl ⟨j, hj, e⟩
   ·rw [List.mem_singleton] at hj; subst hj; rw [hc, Option.some.injEq] at e; exact .inr e.symm
  ·rintro (⟨j, hj, e⟩ | rfl)
   ·exact ⟨j, List.mem_append_left _ hj, e⟩
   ·exact ⟨i, by simp, hc⟩
 refine ⟨fun hm x => ?_, fun x => ?_⟩
 ·rw [key, h x]
  constructor
  ·rintro (h1 | h1)
   ·exact .inl h1
   ·exact .inr (.inl h1)
  ·rintro (h1 | h1 | rfl)
   ·exact .inl h1
   ·exact .inr h1
   ·exact (h x).1 hm
 ·rw [key, List.mem_append, List.mem_singleton, h x, or_assoc]
def zms (A u : T) (l out : List Idv) : List Idv := if z23 u.id A = true /\ ¬ u.kind = 0 /\ u.id ∉ l then out ++ [u.id] else out
end Tr
set_option maxHeartbeats 16000000 in
theorem zhk (A B u : T) (pc : List D) (hpc : pc.length = 8) (x s sm o ow p q : Nat) (na : (idsT A).Nodup) (hu : szB u = true) (hk0 : ∀ k ∈ u.kids, ¬ A.id = k.id) (hnk : (u.kids.map T.id).Nodup) (l out : List Idv) (hl : l.Nodup) (hout : out.length <= 1000000) (H : HM) (nx : Nat)
  (hx : x < nx) (hs : s < nx) (hsm : sm < nx) (ho : o < nx) (how : ow < nx) (hp : p < nx) (hHx : H x = some (.box 100 (cellsPr A B p q))) (hHs : H s = some (.box 55 [.mp sm])) (hHsm : H sm = some (.map (setI l)))
  (hHo : H o = some (.box 39 [.osl ow out.length])) (hHow : H ow = some (.row 23 out.length (out.flatMap cellsId))) (hHp : H p = some (.map (mapI encPl (plcs A)))) (hps : p ≠ sm) (hso : s ≠ o) (hxs : x ≠ s) :
  AC prog 77 [z1n u, .agg pc, .ptr x 0, .ptr s 0, .ptr o 0] H nx fun r' H' nx' => r' = .tup [] /\ nx' = nx /\ ∃ l' : List Idv, l'.Nodup /\ (∀ i, i ∈ l' ↔ i ∈ l \/ i ∈ z2j A u) /\ H' sm = some (.map (setI l')) /\
   H' o = some (.box 39 [.osl ow (zms A u l' out).length]) /\ H' ow = some (.row 23 (zms A u l' out).length ((zms A u l' out).flatMap cellsId)) /\ ∀ id, id < nx -> id ≠ sm -> id ≠ o -> id ≠ ow -> H' id = H id := by
 have a1 : x ≠ sm := fun e => by subst e; rw [hHx] at hHsm; cases hHsm
 have a2 : s ≠ sm := fun e => by subst e; rw [hHs] at hHsm; cases hHsm
 have a3 : o ≠ sm := fun e => by subst e; rw [hHo] at hHsm; cases hHsm
 have a4 : ow ≠ sm := fun e => by subst e; rw [hHow] at hHsm; cases hHsm
 have a5 : ow ≠ o := fun e => by subst e; rw [hHow] at hHo; cases hHo
 have a6 : p ≠ o := fun e => by subst e; rw [hHp] at hHo; cases hHo
 have a7 : p ≠ ow := fun e => by subst e; rw [hHp] at hHow; cases hHow
 have a8 : x ≠ ow := fun e => by subst e; rw [hHx] at hHow; cases hHow
 have a9 : s ≠ ow := fun e => by subst e; rw [hHs] at hHow; cases hHow
 have d1 := z1o a1
 have d2 := z1o a2
 have d3 := z1o a3
 have d4 := z1o a4
 have d5 := z1o a5
 have d6 := z1o hps
 have d7 := z1o hso
 have d8 := z1o (Ne.symm a5)
 have d9 := z1o (Ne.symm a3)
 have d10 := z1o (Ne.symm a4)
 have d11 := z1o (Ne.symm hso)
 have e1 := z03 hx
 have e2 := z03 hs
 have e3 := z03 hsm
 have e4 := z03 ho
 have e5 := z03 how
 have e6 := z03 hp
 suffices h : AC prog 77 [z1n u, .agg pc, .ptr x 0, .ptr s 0, .ptr o 0] H nx fun r' H' _ => r' = .tup [] /\ ∃ l' : List Idv, l'.Nodup /\ (∀ i, i ∈ l' ↔ i ∈ l \/ i ∈ z2j A u) /\ H' sm = some (.map (setI l')) /\
   H' o = some (.box 39 [.osl ow (zms A u l' out).length]) /\ H' ow = some (.row 23 (zms A u l' out).length ((zms A u l' out).flatMap cellsId)) /\ ∀ id, id < nx -> id ≠ sm -> id ≠ o -> id ≠ ow -> H' id = H id by
  refine (z90 h ?_).mono ?_
  ·rintro r H' nx' ⟨rfl, l', _, _, h3, h4, h5, h6⟩
   refine ⟨rfl, fun id q hid hq => ?_⟩
   by_cases c1 : id = sm
   ·subst c1; rw [h3] at hq; cases hq; exact .inr (zc9 (zav _))
   by_cases c2 : id = o
   ·subst c2; rw [h4] at hq; cases hq; refine .inr ?_; simp [lowO, lowD.lowL, lowD, how]
   by_cases c3 : id = ow
   ·subst c3; rw [h5] at hq; cases hq; exact .inr (zc9 (z0y (fun _ => rfl) _))
   exact .inl (by rw [<- h6 id hid c1 c2 c3]; exact hq)
  ·rintro r H2 n2 ⟨rfl, H', nx', ⟨rfl, l', h1, h2, h3, h4, h5, h6⟩, rfl⟩
   have hc : ∀ {id}, id < n2 -> zor n2 H' id = H' id := fun h => if_pos h
   exact ⟨rfl, rfl, l', h1, h2, (hc hsm).trans h3, (hc ho).trans h4, (hc how).trans h5, fun id hid c1 c2 c3 => (hc hid).trans (h6 id hid c1 c2 c3)⟩
 refine z9v func77 rfl (by decide +kernel) (by simp [ntmps77]) ?_
 refine Sem.seq (Sem.walk (own := []) z5z (by decide +kernel) ?_)
 repeat' (first | ((refine zqr fun K hK => ?_); (simp (disch := omega) only [go_sem, Nat.reduceBEq])) | refine zqv ?_ | (refine hK _ ?_; clear hK K))
 obtain ⟨S, hS⟩ : ∃ S, S = z2j A u := ⟨_, rfl⟩
 refine Sem.seq (Sem.rangeL (own := []) 3 z5z rfl rfl rfl ⟨rfl, rfl, rfl⟩ ⟨rfl, rfl, rfl⟩ ⟨rfl, rfl, rfl⟩ ⟨rfl, rfl, rfl⟩ mapT55 (by decide +kernel) (by decide +kernel) (by decide +kernel) ?_)
 (simp (disch := omega) only [go_sem, Nat.reduceBEq, ↓reduceIte, Nat.reduceAdd, Nat.reduceLeDiff, e1, hHx, List.take_succ_cons, List.take_zero, List.map_cons, List.map_nil])
 refine zhi (zus A B u p q na hu hk0 hnk _ _ ?_ ?_) ?_
 ·(simp (disch := omega) only [go_sem])
 ·(simp (disch := omega) only [go_sem, e6, hHp])
 rw [<- hS]
 (simp (disch := omega) only [go_sem, Nat.reduceBEq])
 refine ⟨nx + 2, setI S, rfl, by (simp (disch := omega) only [go_sem, e1]), fun M J => ⟨fun ls st => st.H (nx + 2) = some M /\ st.H (nx + 3) = some (J ls) /\ st.t 13 = .it (nx + 3) /\ st.t 2 = .ptr x 0 /\ st.t 3 = .ptr s 0 /\ st.t 4 = .ptr o 0 /\ st.t 5 = .ptr nx 0 /\ st.H nx = some (.box 27 (z08 u)) /\ nx + 4 <= st.nx /\ (∀ id, id < nx -> id ≠ sm -> st.H id = H id) /\
  ∃ l' : List Idv, l'.Nodup /\ (∀ i, i ∈ l' ↔ i ∈ l \/ ∃ j ∈ ls, S[j]? = some i) /\ st.H sm = some (.map (setI l')), ?_, ?_, ?_, ?_⟩⟩
 ·rintro ls st ⟨g1, g2, g3, _⟩
  refine ⟨g1, ?_, ?_⟩
  ·(simp (disch := omega) only [go_sem])
   exact g2
  ·(simp (disch := omega) only [go_sem])
   exact g3
 ·unfold zp2
  (simp (disch := omega) only [go_sem, Nat.reduceBEq, Nat.reduceLeDiff, e1, e3, true_and])
  refine ⟨Nat.le_refl _, fun id hid hne => ?_, l, hl, fun i => ?_, hHsm⟩
  ·simp (disch := omega) only [z0c]
  ·exact ⟨.inl, fun h => h.elim id fun ⟨j, hj, _⟩ => by cases hj⟩
 ·rintro ls st i k v ⟨g1, g2, g3, g4, g5, g6, g7, g8, g9, g10, l', h1, h2, h3⟩ hnd hlt hil hkv
  obtain ⟨c, hc, rfl, rfl⟩ : ∃ c, S[i]? = some c /\ k = z6e c /\ v = .bool true := by
   unfold setI at hkv
   rw [List.getElem?_map, Option.map_eq_some_iff] at hkv
   obtain ⟨c, hc, he⟩ := hkv
   simp only [Prod.mk.injEq] at he
   exact ⟨c, hc, he.1.symm, he.2.symm⟩
  have gs : st.H s = some (.box 55 [.mp sm]) := (g10 s hs a2).trans hHs
  have f0 := z03 (show nx < st.nx by omega)
  have f1 := z03 (show nx + 2 < st.nx by omega)
  have f2 := z03 (show nx + 3 < st.nx by omega)
  have f3 := z03 (show s < st.nx by omega)
  have f4 := z03 (show sm < st.nx by omega)
  have hfk := zbe c l'
  unfold zp3
  by_cases hm : c ∈ l'
  ·rw [if_pos hm] at hfk
   have hsv := zer h1 hm
   (simp (disch := omega) only [go_sem, Nat.reduceBEq, ↓reduceIte, Nat.reduceAdd, Nat.reduceLeDiff])
   repeat' (first | ((refine zqr fun K hK => ?_); (simp (disch := omega) only [go_sem, Nat.reduceBEq, ↓reduceIte, Nat.reduceAdd, Nat.reduceLeDiff, e2, e3, f2, f3, f4, g5, gs, h3, hfk, hsv])) | (refine hK _ ?_; clear hK K))
   refine zeq ?_
   (simp (disch := omega) only [go_sem, Nat.reduceBEq, Nat.reduceLeDiff, e1, e3, f0, f1, f2, f4, g1, g2, g3, g4, g5, g6, g7, g8, true_and])
   exact ⟨by omega, fun id hid hne => by simp (disch := omega) only [z0c]; exact g10 id hid hne, l', h1, (zhj h2 hc).1 hm, rfl⟩
  ·rw [if_neg hm] at hfk
   have hsn := z9f l' c
   (simp (disch := omega) only [go_sem, Nat.reduceBEq, ↓reduceIte, Nat.reduceAdd, Nat.reduceLeDiff])
   repeat' (first | ((refine zqr fun K hK => ?_); (simp (disch := omega) only [go_sem, Nat.reduceBEq, ↓reduceIte, Nat.reduceAdd, Nat.reduceLeDiff, e2, e3, f2, f3, f4, g5, gs, h3, hfk, hsn])) | (refine hK _ ?_; clear hK K))
   refine zeq ?_
   (simp (disch := omega) only [go_sem, Nat.reduceBEq, Nat.reduceLeDiff, e1, e3, f0, f1, f2, f4, g1, g2, g3, g4, g5, g6, g7, g8, true_and])
   exact ⟨by omega, fun id hid hne => by simp (disch := omega) only [z0c]; exact g10 id hid hne, l' ++ [c], zkf h1 hm, (zhj h2 hc).2, rfl⟩
 ·rintro ls st ⟨g1, g2, g3, g4, g5, g6, g7, g8, g9, g10, l', h1, h2, h3⟩ hnd hlt hall
  unfold zjz
  refine zqv (Sem.walk (own := []) z5z (by decide +kernel) ?_)
  have gx : st.H x = some (.box 100 (cellsPr A B p q)) := (g10 x hx a1).trans hHx
  have gs : st.H s = some (.box 55 [.mp sm]) := (g10 s hs a2).trans hHs
  have go : st.H o = some (.box 39 [.osl ow out.length]) := (g10 o ho a3).trans hHo
  have gow : st.H ow = some (.row 23 out.length (out.flatMap cellsId)) := (g10 ow how a4).trans hHow
  have gp : st.H p = some (.map (mapI encPl (plcs A))) := (g10 p hp hps).trans hHp
  have f0 := z03 (show nx < st.nx by omega)
  have f1 := z03 (show nx + 2 < st.nx by omega)
  have f2 := z03 (show nx + 3 < st.nx by omega)
  have f3 := z03 (show s < st.nx by omega)
  have f4 := z03 (show sm < st.nx by omega)
  have f5 := z03 (show x < st.nx by omega)
  have f6 := z03 (show o < st.nx by omega)
  have f7 := z03 (show ow < st.nx by omega)
  have f8 := z03 (show p < st.nx by omega)
  have hmem : ∀ i, i ∈ l' ↔ i ∈ l \/ i ∈ S := fun i => by
   rw [h2 i]
   refine or_congr Iff.rfl ⟨fun ⟨j, _, h⟩ => List.mem_of_getElem? h, fun h => ?_⟩
   obtain ⟨j, hj, e⟩ := List.getElem_of_mem h
   exact ⟨j, hall j (by unfold setI; rw [List.length_map]; exact hj), by rw [List.getElem?_eq_getElem hj, e]⟩
  have hfk := zbe u.id l'
  rcases zg6 na u.id with ⟨hA, y, _, _, n, hf⟩ | ⟨hA, hf⟩
  ·by_cases O : u.kind = 0
   ·repeat' (first | ((refine zqh fun K hK => ?_); (simp (disch := omega) only [go_sem, Nat.reduceBEq, ↓reduceIte, reduceCtorEq, Nat.reduceAdd, Nat.reduceLeDiff, e1, e6, f0, f1, gx, gp, g4, g7, g8, hf, O])) | ((refine zqm _ rfl (fun hc => ?_) (fun hc => ?_)) <;> (first | (cases hc; done) | ((try simp only [] at hc); (try omega)))) | refine zqk ?_ | refine zqu (by simp only [go_sem]; rfl) rfl ?_ | (refine hK _ ?_; clear hK K))
    have he : zms A u l' out = out := if_neg fun h => h.2.1 O
    refine ⟨rfl, l', h1, hmem, ?_⟩
    rw [he]
    (simp (disch := omega) only [go_sem, e3, e4, e5, f4, f6, f7, go, gow, h3, true_and])
    exact fun id hid c1 c2 c3 => by simp (disch := omega) only [z0c]; exact g10 id hid c1
   ·by_cases hm : u.id ∈ l'
    ·rw [if_pos hm] at hfk
     repeat' (first | ((refine zqh fun K hK => ?_); (simp (disch := omega) only [go_sem, Nat.reduceBEq, ↓reduceIte, reduceCtorEq, Nat.reduceAdd, Nat.reduceLeDiff, e1, e2, e3, e6, f0, f1, f3, f4, gx, gs, gp, g4, g5, g7, g8, h3, hf, O, hfk])) | ((refine zqm _ rfl (fun hc => ?_) (fun hc => ?_)) <;> (first | (cases hc; done) | ((try simp only [] at hc); (try omega)))) | refine zqk ?_ | refine zqu (by simp only [go_sem]; rfl) rfl ?_ | (refine hK _ ?_; clear hK K))
     have he : zms A u l' out = out := if_neg fun h => h.2.2 hm
     refine ⟨rfl, l', h1, hmem, ?_⟩
     rw [he]
     (simp (disch := omega) only [go_sem, e3, e4, e5, f4, f6, f7, go, gow, h3, true_and])
     exact fun id hid c1 c2 c3 => by simp (disch := omega) only [z0c]; exact g10 id hid c1
    ·rw [if_neg hm] at hfk
     repeat' (first | ((first | refine zqh fun K hK => ?_ | refine zqr fun K hK => ?_); (simp (disch := omega) only [go_sem, Nat.reduceBEq, ↓reduceIte, reduceCtorEq, Nat.reduceAdd, Nat.reduceMul, Nat.reduceLeDiff, Nat.reduceLT, e1, e2, e3, e4, e5, e6, f0, f1, f3, f4, f6, f7, d8, gx, gs, go, gow, gp, g4, g5, g6, g7, g8, h3, hf, O, hfk])) | ((refine zqm _ rfl (fun hc => ?_) (fun hc => ?_)) <;> (first | (cases hc; done) | ((try simp only [] at hc); (try omega)))) | refine zqu (by simp only [go_sem]; rfl) rfl ?_ | (refine hK _ ?_; clear hK K))
     have he : zms A u l' out = out ++ [u.id] := if_pos ⟨hA, O, hm⟩
     refine ⟨rfl, l', h1, hmem, ?_⟩
     rw [he]
     (simp (disch := omega) only [go_sem, e3, e4, e5, f4, f6, f7, d5, d8, d9, d10, go, gow, h3, true_and, List.length_append, List.length_cons, List.length_nil, List.flatMap_append, List.flatMap_cons, List.flatMap_nil, List.append_nil, cellsId])
     exact fun id hid c1 c2 c3 => by simp (disch := omega) only [z0c]; exact g10 id hid c1
  ·repeat' (first | ((refine zqh fun K hK => ?_); (simp (disch := omega) only [go_sem, Nat.reduceBEq, ↓reduceIte, reduceCtorEq, Nat.reduceAdd, Nat.reduceLeDiff, e1, e6, f1, gx, gp, g4, g7, g8, hf])) | ((refine zqm _ rfl (fun hc => ?_) (fun hc => ?_)) <;> (first | (cases hc; done) | ((try simp only [] at hc); (try omega)))) | refine zqk ?_ | refine zqu (by simp only [go_sem]; rfl) rfl ?_ | (refine hK _ ?_; clear hK K))
   have he : zms A u l' out = out := if_neg fun h => by have := h.1; rw [hA] at this; cases this
   refine ⟨rfl, l', h1, hmem, ?_⟩
   rw [he]
   (simp (disch := omega) only [go_sem, e3, e4, e5, f4, f6, f7, go, gow, h3, true_and])
   exact fun id hid c1 c2 c3 => by simp (disch := omega) only [z0c]; exact g10 id hid c1
end
section
open Abs Facts Tr
attribute [local irreducible] awp
set_option maxRecDepth 100000
namespace Tr
def outL (A : T) (done : List (T × T)) : List Idv := (done.filter fun e => z23 e.2.id A && !decide (e.2.id ∈ z2j A e.1)).map fun e => e.2.id
theorem zl6 (A B : T) : outL A (edT B) = zos A B := rfl
theorem zp5 (A : T) (done : List (T × T)) : (outL A done).length <= done.length := by
 unfold outL; rw [List.length_map]; exact List.length_filter_le _ _
theorem zp6 (A : T) (done : List (T × T)) (e : T × T) : outL A (done ++ [e]) = if z23 e.2.id A = true /\ e.2.id ∉ z2j A e.1 then outL A done ++ [e.2.id] else outL A done := by
 unfold outL
 rw [List.filter_append, List.map_append]
 by_cases h1 : z23 e.2.id A = true <;> by_cases h2 : e.2.id ∈ z2j A e.1 <;> simp [h1, h2]
def inS (A B : T) (done : List (T × T)) (i : Idv) : Prop := i ∈ z2j A B \/ ∃ e ∈ done, i ∈ z2j A e.2
theorem zwu {A B : T} (bk : z3r B = true) {u k : T} (hu : u ∈ nodesT B) (O : k ∈ u.kids) {l l' : List Idv} {done : List (T × T)} (V : ∀ e ∈ done, e.2 ∈ nodesT B) (hl : ∀ i, i ∈ l ↔ inS A B done i) (hl' : ∀ i, i ∈ l' ↔ i ∈ l \/ i ∈ z2j A k) (hin : u = B \/ ∃ e ∈ done, e.2 = u) :
  zms A k l' (outL A done) = outL A (done ++ [(u, k)]) /\ ∀ i, i ∈ l' ↔ inS A B (done ++ [(u, k)]) i := by
 have nb := ((z1g B).1 bk).2.2
 have hkn : k ∈ nodesT B := z12 B u hu k (z0k O (z05 k))
 have hm : ∀ i, i ∈ l' ↔ inS A B (done ++ [(u, k)]) i := fun i => by
  rw [hl', hl]
  unfold inS
  constructor
  ·rintro ((h | ⟨e, he, h⟩) | h)
   ·exact .inl h
   ·exact .inr ⟨e, List.mem_append_left _ he, h⟩
   ·exact .inr ⟨(u, k), by simp, h⟩
  ·rintro (h | ⟨e, he, h⟩)
   ·exact .inl (.inl h)
   ·rcases List.mem_append.1 he with he | he
    ·exact .inl (.inr ⟨e, he, h⟩)
    ·rw [List.mem_singleton] at he; subst he; exact .inr h
 refine ⟨?_, hm⟩
 have hkind : ¬ k.kind = 0 := (z65 bk hu).2.2.2.2 k O
 have key : k.id ∈ l' ↔ k.id ∈ z2j A u := by
  rw [hm]
  constructor
  ·intro h
   have fin : ∀ q ∈ nodesT B, k.id ∈ z2j A q -> k.id ∈ z2j A u := fun q hq hs => by
    obtain ⟨k', hk', e, _⟩ := z7g hs
    obtain ⟨e2, _⟩ := zq0 nb hq hk' hu O e
    exact e2 ▸ hs
   rcases h with h | ⟨e, he, h⟩
   ·exact fin B (z05 B) h
   ·rcases List.mem_append.1 he with he | he
    ·exact fin _ (V e he) h
    ·rw [List.mem_singleton] at he; subst he; exact fin k hkn h
  ·intro h
   rcases hin with rfl | ⟨e, he, rfl⟩
   ·exact .inl h
   ·exact .inr ⟨e, List.mem_append_left _ he, h⟩
 rw [zp6]
 unfold zms
 simp only [key, hkind, not_false_iff, true_and]
theorem zw1 (t : T) : (edT t).length + 1 = cntT t := by
 have h := congrArg List.length (zw6 t)
 rw [List.length_cons, List.length_map] at h
 unfold idsT at h
 rw [List.length_map] at h
 exact h.symm
def edN (u : T) (i : Nat) : List (T × T) := (u.kids.take i).flatMap fun k => (u, k) :: edT k
theorem zl7 {u : T} {i : Nat} (h : i < u.kids.length) : edN u (i + 1) = edN u i ++ [(u, u.kids[i])] ++ edT u.kids[i] := by
 unfold edN
 rw [List.take_succ_eq_append_getElem h, List.flatMap_append]
 simp
theorem zwv (u : T) : edN u u.kids.length = edT u := by rw [zlk, edN, List.take_length]
theorem z01a {u : T} {i : Nat} (h : i < u.kids.length) : (edN u i).length + 1 + (edT u.kids[i]).length <= (edT u).length := by
 have h1 : edT u = edN u (i + 1) ++ (u.kids.drop (i + 1)).flatMap fun k => (u, k) :: edT k := by
  rw [zlk, edN, <- List.flatMap_append, List.take_append_drop]
 rw [h1, zl7 h]
 simp only [List.length_append, List.length_cons, List.length_nil]
 omega
end Tr
section
variable (A B : T) (x s sm o ow p q : Nat)
structure MvI (done : List (T × T)) (H : HM) : Prop where
 sub : ∀ e ∈ done, e.2 ∈ nodesT B
 set : ∃ l : List Idv, l.Nodup /\ (∀ i, i ∈ l ↔ inS A B done i) /\ H sm = some (.map (setI l))
 ho : H o = some (.box 39 [.osl ow (outL A done).length])
 how : H ow = some (.row 23 (outL A done).length ((outL A done).flatMap cellsId))
structure MvF (nx : Nat) (H : HM) : Prop where
 lx : x < nx
 ls : s < nx
 lsm : sm < nx
 lo : o < nx
 low : ow < nx
 lp : p < nx
 hx : H x = some (.box 100 (cellsPr A B p q))
 hs : H s = some (.box 55 [.mp sm])
 hp : H p = some (.map (mapI encPl (plcs A)))
 xsm : x ≠ sm
 xo : x ≠ o
 xow : x ≠ ow
 ssm : s ≠ sm
 so : s ≠ o
 sow : s ≠ ow
 psm : p ≠ sm
 po : p ≠ o
 pow : p ≠ ow
end
theorem MvF.later {A B : T} {x s sm o ow p q nx nx' : Nat} {H H' : HM} (h : MvF A B x s sm o ow p q nx H) (hn : nx <= nx') (O : ∀ id, id < nx -> id ≠ sm -> id ≠ o -> id ≠ ow -> H' id = H id) : MvF A B x s sm o ow p q nx' H' where
 lx := Nat.lt_of_lt_of_le h.lx hn
 ls := Nat.lt_of_lt_of_le h.ls hn
 lsm := Nat.lt_of_lt_of_le h.lsm hn
 lo := Nat.lt_of_lt_of_le h.lo hn
 low := Nat.lt_of_lt_of_le h.low hn
 lp := Nat.lt_of_lt_of_le h.lp hn
 hx := (O x h.lx h.xsm h.xo h.xow).trans h.hx
 hs := (O s h.ls h.ssm h.so h.sow).trans h.hs
 hp := (O p h.lp h.psm h.po h.pow).trans h.hp
 xsm := h.xsm
 xo := h.xo
 xow := h.xow
 ssm := h.ssm
 so := h.so
 sow := h.sow
 psm := h.psm
 po := h.po
 pow := h.pow
theorem MvI.later {A B : T} {sm o ow : Nat} {done : List (T × T)} {H H' : HM} (h : MvI A B sm o ow done H) (h1 : H' sm = H sm) (h2 : H' o = H o) (h3 : H' ow = H ow) : MvI A B sm o ow done H' where
 sub := h.sub
 set := by obtain ⟨l, a, b, c⟩ := h.set; exact ⟨l, a, b, h1.trans c⟩
 ho := h2.trans h.ho
 how := h3.trans h.how
theorem zww {A B : T} (na : (idsT A).Nodup) (bk : z3r B = true) (hr : A.id = B.id) {u k : T} (hu : u ∈ nodesT B) (O : k ∈ u.kids) (hz : szB k = true) (x s sm o ow p q : Nat) (pc : List D) (hpc : pc.length = 8) (done : List (T × T)) (hdl : done.length <= 1000000) (hin : u = B \/ ∃ e ∈ done, e.2 = u) (H : HM) (nx : Nat)
  (hF : MvF A B x s sm o ow p q nx H) (hI : MvI A B sm o ow done H) :
  AC prog 77 [z1n k, .agg pc, .ptr x 0, .ptr s 0, .ptr o 0] H nx fun r' H' nx' => r' = .tup [] /\ nx' = nx /\ MvI A B sm o ow (done ++ [(u, k)]) H' /\ ∀ id, id < nx -> id ≠ sm -> id ≠ o -> id ≠ ow -> H' id = H id := by
 have nb := ((z1g B).1 bk).2.2
 have hkn : k ∈ nodesT B := z12 B u hu k (z0k O (z05 k))
 obtain ⟨l, h1, h2, h3⟩ := hI.set
 refine (zhk A B k pc hpc x s sm o ow p q na hz (fun y hy => by rw [hr]; exact z81 nb hkn hy) (z38 nb hkn) l (outL A done) h1 (Nat.le_trans (zp5 _ _) hdl) H nx hF.lx hF.ls hF.lsm hF.lo hF.low hF.lp hF.hx hF.hs h3 hI.ho hI.how hF.hp hF.psm hF.so (fun e => by have h9 := hF.hx; rw [e, hF.hs] at h9; cases h9)).mono ?_
 rintro r' H' nx' ⟨g1, g2, l', g3, g4, g5, g6, g7, g8⟩
 obtain ⟨m1, m2⟩ := zwu bk hu O hI.sub h2 g4 hin
 rw [m1] at g6 g7
 refine ⟨g1, g2, ⟨fun e he => ?_, ⟨l', g3, m2, g5⟩, g6, g7⟩, g8⟩
 rcases List.mem_append.1 he with he | he
 ·exact hI.sub e he
 ·rw [List.mem_singleton] at he; subst he; exact hkn
theorem zp7 {A B : T} {sm o ow nx : Nat} {done : List (T × T)} {H H' : HM} (hI : MvI A B sm o ow done H') (how : ow < nx) (O : ∀ id, id < nx -> id ≠ sm -> id ≠ o -> id ≠ ow -> H' id = H id) : ∀ id q, id < nx -> H' id = some q -> H id = some q \/ lowO nx q = true := by
 intro id q hid hq
 obtain ⟨l, _, _, h3⟩ := hI.set
 by_cases c1 : id = sm
 ·subst c1; rw [h3] at hq; cases hq; exact .inr (zc9 (zav _))
 by_cases c2 : id = o
 ·subst c2; rw [hI.ho] at hq; cases hq; refine .inr ?_; simp [lowO, lowD.lowL, lowD, how]
 by_cases c3 : id = ow
 ·subst c3; rw [hI.how] at hq; cases hq; exact .inr (zc9 (z0y (fun _ => rfl) _))
 exact .inl (by rw [<- O id hid c1 c2 c3]; exact hq)
set_option maxHeartbeats 16000000 in
theorem ztk {A B : T} (na : (idsT A).Nodup) (bk : z3r B = true) (hr : A.id = B.id) (x s sm o ow p q : Nat) : ∀ u : T, u ∈ nodesT B -> szB u = true -> ∀ (done : List (T × T)), done.length + (edT u).length <= 1000000 -> (u = B \/ ∃ e ∈ done, e.2 = u) -> ∀ (H : HM) (nx : Nat), MvF A B x s sm o ow p q nx H -> MvI A B sm o ow done H ->
  AC prog 92 [z1n u, .fn 77 [.ptr x 0, .ptr s 0, .ptr o 0]] H nx fun r' H' nx' => r' = .tup [] /\ nx' = nx /\ MvI A B sm o ow (done ++ edT u) H' /\ ∀ id, id < nx -> id ≠ sm -> id ≠ o -> id ≠ ow -> H' id = H id := by
 refine z6x fun u ih hu hsz done hdl hin H nx hF hI => ?_
 obtain ⟨h0, h1, g1, h2, g2, h3, h4⟩ := (z4i u).1 hsz
 suffices h : AC prog 92 [z1n u, .fn 77 [.ptr x 0, .ptr s 0, .ptr o 0]] H nx fun r' H' _ => r' = .tup [] /\ MvI A B sm o ow (done ++ edT u) H' /\ ∀ id, id < nx -> id ≠ sm -> id ≠ o -> id ≠ ow -> H' id = H id by
  refine (z90 h fun r H' nx' ⟨hr, hi, O⟩ => ⟨by rw [hr]; rfl, zp7 hi hF.low O⟩).mono ?_
  rintro r H2 n2 ⟨rfl, H', nx', ⟨hr, hi, O⟩, rfl⟩
  have hc : ∀ {id}, id < n2 -> zor n2 H' id = H' id := fun h => if_pos h
  exact ⟨hr, rfl, hi.later (hc hF.lsm) (hc hF.lo) (hc hF.low), fun id hid c1 c2 c3 => (hc hid).trans (O id hid c1 c2 c3)⟩
 refine (z2o [] func92 rfl (by decide +kernel) rfl ?_)
 show awp _ _ (Code.seq _ _) _ _
 repeat' (first | ((refine zqh fun K hK => ?_); (simp (disch := omega) only [go_sem, Nat.reduceBEq, ↓reduceIte, reduceCtorEq, Nat.reduceAdd])) | refine zqi ?_ | (refine hK _ ?_; clear hK K))
 (refine z8h (fun U st => ∃ (i : Nat), U = u.kids.length - i /\ st.t 2 = .ptr nx 0 /\ st.t 1 = .fn 77 [.ptr x 0, .ptr s 0, .ptr o 0] /\ st.t 7 = z0t u.kids /\ st.t 8 = .int .i64 u.kids.length /\ st.t 9 = .int .i64 i /\ st.H (nx) = some (.box 27 (z08 u)) /\ (i <= u.kids.length) /\ (nx < st.nx) /\ (MvI A B sm o ow (done ++ edN u i) st.H) /\ (∀ id, id < nx -> id ≠ sm -> id ≠ o -> id ≠ ow -> st.H id = H id)) ?_ ?_); rotate_left; (rintro U st ⟨i, rfl, v2, v1, v7, v8, v9, vHnx, vp0, vp1, vp2, vp3⟩); rotate_left
 ·(refine ⟨_, 0, rfl, ?_⟩); (simp (disch := omega) only [go_sem, Nat.reduceBEq, true_and, Int.natCast_zero, z0t])
  have hz : done ++ edN u 0 = done := by rw [show edN u 0 = [] from rfl, List.append_nil]
  rw [hz]
  exact ⟨Nat.lt_succ_self _, hI.later (z26 _ (by have := hF.lsm; omega)) (z26 _ (by have := hF.lo; omega)) (z26 _ (by have := hF.low; omega)), fun id hid c1 c2 c3 => by simp (disch := omega) only [z0c]⟩
 have f0 := z03 (show nx < st.nx by omega)
 by_cases hi : i < u.kids.length
 ·have hki := List.getElem_mem hi
  have hn := zl7 hi
  have hle := z01a hi
  have hF1 : MvF A B x s sm o ow p q st.nx st.H := hF.later (by omega) vp3
  have hin1 : u = B \/ ∃ e ∈ done ++ edN u i, e.2 = u := hin.imp id fun ⟨e, he, h⟩ => ⟨e, List.mem_append_left _ he, h⟩
  have hdl1 : (done ++ edN u i).length <= 1000000 := by rw [List.length_append]; omega
  repeat' (first | ((refine zqh fun K hK => ?_); (simp (disch := omega) only [go_sem, Nat.reduceBEq, ↓reduceIte, reduceCtorEq, Nat.reduceAdd, Nat.reduceLeDiff, v2, v1, v7, v8, v9, vHnx, f0, z0t])) | (refine zqd _ rfl ?_ ?_ <;> intro hc <;> (((try simp only [z0e] at hc); (try omega)))) | refine zqa ?_ | refine zqb ?_ | (refine hK _ ?_; clear hK K))
  refine z2v ((zww na bk hr hu hki (h4 _ hki) x s sm o ow p q (z08 u) (zae u) (done ++ edN u i) hdl1 hin1 _ _ ?_ ?_).mono ?_)
  ·refine hF.later (by (simp (disch := omega) only [go_sem]); all_goals omega) fun id hid c1 c2 c3 => ?_
   refine Eq.trans ?_ (vp3 id hid c1 c2 c3)
   (simp (disch := omega) only [go_sem])
  ·refine vp2.later ?_ ?_ ?_
   ·have := hF.lsm; (simp (disch := omega) only [go_sem])
   ·have := hF.lo; (simp (disch := omega) only [go_sem])
   ·have := hF.low; (simp (disch := omega) only [go_sem])
  rintro r1 H1 n1 ⟨rfl, hn1, hI1, hk1⟩
  have hn1 : n1 = st.nx + 1 := by rw [hn1]; (simp (disch := omega) only [go_sem])
  subst hn1
  have hk1 : ∀ id, id < st.nx + 1 -> id ≠ sm -> id ≠ o -> id ≠ ow -> H1 id = (if id = st.nx then some (.box 27 (z08 u.kids[i])) else st.H id) := fun id hid c1 c2 c3 => by
   refine (hk1 id (by (simp (disch := omega) only [go_sem]); all_goals omega) c1 c2 c3).trans ?_
   (simp (disch := omega) only [go_sem])
   by_cases e : id = st.nx
   ·subst e; simp
   ·simp only [z1o e, cond_false, if_neg e]
  have lsm := hF.lsm
  have lo := hF.lo
  have low := hF.low
  have hb1 : H1 st.nx = some (.box 27 (z08 u.kids[i])) := (hk1 _ (by omega) (by omega) (by omega) (by omega)).trans (if_pos rfl)
  have hb2 : H1 nx = some (.box 27 (z08 u)) := (hk1 _ (by omega) (by omega) (by omega) (by omega)).trans ((if_neg (by omega)).trans vHnx)
  have hk2 : ∀ id, id < nx -> id ≠ sm -> id ≠ o -> id ≠ ow -> H1 id = H id := fun id hid c1 c2 c3 => (hk1 id (by omega) c1 c2 c3).trans ((if_neg (by omega)).trans (vp3 id hid c1 c2 c3))
  clear hk1
  repeat' (first | ((refine zqr fun K hK => ?_); (simp (disch := omega) only [go_sem, Nat.reduceBEq, ↓reduceIte, Nat.reduceAdd, Nat.reduceLeDiff, v1, hb1])) | (refine hK _ ?_; clear hK K))
  refine z2v ((ih _ hki (z12 B u hu _ (z0k hki (z05 _))) (h4 _ hki) (done ++ edN u i ++ [(u, u.kids[i])]) (by simp only [List.length_append, List.length_cons, List.length_nil]; omega) (.inr ⟨(u, u.kids[i]), by simp, rfl⟩) _ _ ?_ ?_).mono ?_)
  ·refine hF.later (by (simp (disch := omega) only [go_sem]); all_goals omega) fun id hid c1 c2 c3 => ?_
   (simp (disch := omega) only [go_sem])
   exact hk2 id hid c1 c2 c3
  ·(simp (disch := omega) only [go_sem])
   exact hI1
  rintro r2 H2 n2 ⟨rfl, hn2, hI2, hk3⟩
  have hn2 : n2 = st.nx + 1 := by rw [hn2]; (simp (disch := omega) only [go_sem])
  subst hn2
  have hk3 : ∀ id, id < st.nx + 1 -> id ≠ sm -> id ≠ o -> id ≠ ow -> H2 id = H1 id := fun id hid c1 c2 c3 => by
   refine (hk3 id (by (simp (disch := omega) only [go_sem]); all_goals omega) c1 c2 c3).trans ?_
   (simp (disch := omega) only [go_sem])
  have F : H2 nx = some (.box 27 (z08 u)) := (hk3 _ (by omega) (by omega) (by omega) (by omega)).trans hb2
  have hn' : done ++ edN u i ++ [(u, u.kids[i])] ++ edT u.kids[i] = done ++ edN u (i + 1) := by rw [hn]; simp only [List.append_assoc]
  rw [hn'] at hI2
  (try (simp (disch := omega) only [go_sem])); repeat' (first | refine zqv ?_ | refine zqy ?_ | (refine hK _ ?_; clear hK K))
  refine ⟨_, SealTo.refl _, ?_⟩
  repeat' (first | ((refine zqr fun K hK => ?_); (simp (disch := omega) only [go_sem, Nat.reduceBEq, ↓reduceIte, v9])) | (refine hK _ ?_; clear hK K))
  (refine Exists.intro _ (And.intro ?_ ⟨i + 1, rfl, ?_⟩)); rotate_left; (simp (disch := omega) only [go_sem, Nat.reduceBEq, v2, v1, v7, v8, v9, true_and, Int.natCast_add, Int.natCast_one]); rotate_left
  ·omega
  ·exact ⟨F, by omega, hI2, fun id hid c1 c2 c3 => (hk3 id (by omega) c1 c2 c3).trans (hk2 id hid c1 c2 c3)⟩
 ·repeat' (first | ((refine zqh fun K hK => ?_); (simp (disch := omega) only [go_sem, ↓reduceIte, v8, v9])) | (refine zqd _ rfl ?_ ?_ <;> intro hc <;> (((try simp only [z0e] at hc); (try omega)))) | refine zqc ?_ | refine zqz ?_ | refine zqp ?_ | refine zqu (by simp only [go_sem]; rfl) rfl ?_ | (refine hK _ ?_; clear hK K))
  have hil : i = u.kids.length := by omega
  subst hil
  rw [zwv] at vp2
  (simp (disch := omega) only [go_sem])
  exact ⟨vp2, vp3⟩
set_option maxHeartbeats 16000000 in
theorem zwx {A B : T} (na : (idsT A).Nodup) (bk : z3r B = true) (hr : A.id = B.id) (fb : Fit50 B) (x s sm o ow p q : Nat) (H : HM) (nx : Nat) (hF : MvF A B x s sm o ow p q nx H) (hsm : H sm = some (.map (setI []))) (ho : H o = some (.box 39 [.osl ow 0])) (how : H ow = some (.row 23 0 [])) :
  AC prog 76 [z1n B, .fn 77 [.ptr x 0, .ptr s 0, .ptr o 0]] H nx fun r' H' nx' => r' = .tup [] /\ nx' = nx /\ MvI A B sm o ow (edT B) H' /\ ∀ id, id < nx -> id ≠ sm -> id ≠ o -> id ≠ ow -> H' id = H id := by
 obtain ⟨O, _, nb⟩ := (z1g B).1 bk
 suffices h : AC prog 76 [z1n B, .fn 77 [.ptr x 0, .ptr s 0, .ptr o 0]] H nx fun r' H' _ => r' = .tup [] /\ MvI A B sm o ow (edT B) H' /\ ∀ id, id < nx -> id ≠ sm -> id ≠ o -> id ≠ ow -> H' id = H id by
  refine (z90 h fun r H' nx' ⟨hr, hi, O⟩ => ⟨by rw [hr]; rfl, zp7 hi hF.low O⟩).mono ?_
  rintro r H2 n2 ⟨rfl, H', nx', ⟨hr, hi, O⟩, rfl⟩
  have hc : ∀ {id}, id < n2 -> zor n2 H' id = H' id := fun h => if_pos h
  exact ⟨hr, rfl, hi.later (hc hF.lsm) (hc hF.lo) (hc hF.low), fun id hid c1 c2 c3 => (hc hid).trans (O id hid c1 c2 c3)⟩
 have lsm := hF.lsm
 have lo := hF.lo
 have low := hF.low
 have hH0 : ∀ id, id < nx -> z0u H nx (some (.box 27 (z08 B))) id = H id := fun id hid => z26 _ (by omega)
 have hF1 : MvF A B x s sm o ow p q (nx + 1) (z0u H nx (some (.box 27 (z08 B)))) := hF.later (by omega) fun id hid _ _ _ => hH0 id hid
 refine (z2o [] func76 rfl (by decide +kernel) rfl ?_)
 show awp _ _ (Code.seq _ _) _ _
 repeat' (first | ((refine zqh fun K hK => ?_); (simp (disch := omega) only [go_sem, Nat.reduceBEq, ↓reduceIte, Nat.reduceAdd, Nat.reduceLeDiff])) | (refine hK _ ?_; clear hK K))
 refine z2v ((zhk A B B _ ?_ x s sm o ow p q na fb.sz (fun y hy => by rw [hr]; exact z81 nb (z05 B) hy) (z38 nb (z05 B)) [] [] List.nodup_nil (Nat.zero_le _) _ _ ?_ ?_ ?_ ?_ ?_ ?_ ?_ ?_ ?_ ?_ ?_ ?_ hF.psm hF.so (fun e => by have h9 := hF.hx; rw [e, hF.hs] at h9; cases h9)).mono ?_)
 ·rfl
 ·exact hF1.lx
 ·exact hF1.ls
 ·exact hF1.lsm
 ·exact hF1.lo
 ·exact hF1.low
 ·exact hF1.lp
 ·exact hF1.hx
 ·exact hF1.hs
 ·exact (hH0 sm lsm).trans hsm
 ·exact (hH0 o lo).trans ho
 ·exact (hH0 ow low).trans how
 ·exact hF1.hp
 rintro r1 H1 n1 ⟨rfl, hn1, l', g1, g2, g3, g4, g5, hk1⟩
 have hn1 : n1 = nx + 1 := hn1
 subst hn1
 have hk1 : ∀ id, id < nx + 1 -> id ≠ sm -> id ≠ o -> id ≠ ow -> H1 id = z0u H nx (some (.box 27 (z08 B))) id := hk1
 have ho0 : zms A B l' [] = [] := if_neg fun h => h.2.1 O
 rw [ho0] at g4 g5
 have hI1 : MvI A B sm o ow [] H1 := ⟨fun e he => (by cases he), ⟨l', g1, fun i => (g2 i).trans ⟨fun h => h.elim (fun h => by cases h) .inl, fun h => h.elim .inr fun ⟨e, he, _⟩ => by cases he⟩, g3⟩, g4, g5⟩
 have hb : H1 nx = some (.box 27 (z08 B)) := (hk1 nx (by omega) (by omega) (by omega) (by omega)).trans (if_pos rfl)
 repeat' (first | ((refine zqr fun K hK => ?_); (simp (disch := omega) only [go_sem, Nat.reduceBEq, ↓reduceIte, Nat.reduceAdd, Nat.reduceLeDiff, hb])) | (refine hK _ ?_; clear hK K))
 refine z2v ((ztk na bk hr x s sm o ow p q B (z05 B) fb.sz [] (by have h1 := zw1 B; have h2 := fb.cnt; rw [List.length_nil]; omega) (.inl rfl) _ _ ?_ ?_).mono ?_)
 ·exact hF1.later (Nat.le_refl _) fun id hid c1 c2 c3 => hk1 id hid c1 c2 c3
 ·exact hI1
 rintro r2 H2 n2 ⟨rfl, _, hI2, hk2⟩
 have hk2 : ∀ id, id < nx + 1 -> id ≠ sm -> id ≠ o -> id ≠ ow -> H2 id = H1 id := hk2
 (try (simp (disch := omega) only [go_sem])); repeat' (first | refine zqu (by simp only [go_sem]; rfl) rfl ?_ | (refine hK _ ?_; clear hK K))
 exact ⟨rfl, hI2, fun id hid c1 c2 c3 => (hk2 id (by omega) c1 c2 c3).trans ((hk1 id (by omega) c1 c2 c3).trans (hH0 id hid))⟩
set_option maxHeartbeats 16000000 in
theorem zp8 {A B : T} (fa : Fit50 A) (fb : Fit50 B) (ba : z3r A = true) (bk : z3r B = true) (p q : Nat) (H : HM) (nx : Nat) (hp : p < nx) (hHp : H p = some (.map (mapI encPl (plcs A)))) :
  AC prog 58 [.agg (cellsPr A B p q)] H nx fun r' H' nx' => r' = renD (fun j => nx + j) (.osl 0 (zos A B).length) /\ H' = zhh H nx [.row 23 (zos A B).length ((zos A B).flatMap cellsId)] /\ nx' = nx + 1 := by
 have na := ((z1g A).1 ba).2.2
 have nb := ((z1g B).1 bk).2.2
 have hr : A.id = B.id := (z7y ba).trans (z7y bk).symm
 have e1 := z03 hp
 have e2 := z9u hp
 refine zpy rfl (fun o ho => by rw [List.mem_singleton] at ho; subst ho; exact z0y (fun _ => rfl) _) (z2o [] func58 rfl (by decide +kernel) rfl ?_)
 show awp _ _ (Code.seq _ _) _ _
 repeat' (first | ((refine z1k (N := 1) rfl fun K hK => ?_); (simp (disch := omega) only [go_sem, ↓reduceIte])) | (refine hK _ ?_; clear hK K))
 refine z5h fun K hK => ?_
 (simp (disch := omega) only [go_sem])
 refine hK _ _ (zi6 (b := nx + 1) (e := 39) 23 (by (simp (disch := omega) only [go_sem, e1]))) ?_
 clear hK K
 repeat' (first | ((refine zqh fun K hK => ?_); (simp (disch := omega) only [go_sem, Nat.reduceBEq, ↓reduceIte, reduceCtorEq, Nat.reduceAdd, Nat.reduceLeDiff, Nat.reduceLT, e1, e2])) | (refine hK _ ?_; clear hK K))
 refine z2v ((zwx na bk hr fb nx (nx + 4) (nx + 3) (nx + 1) (nx + 2) p q _ _ ?_ ?_ ?_ ?_).mono ?_)
 ·refine ⟨?_, ?_, ?_, ?_, ?_, ?_, ?_, ?_, ?_, by omega, by omega, by omega, by omega, by omega, by omega, by omega, by omega, by omega⟩
  all_goals first | omega | ((simp (disch := omega) only [go_sem, e1, e2, hHp]); all_goals omega)
 ·(simp (disch := omega) only [go_sem, e1, e2])
  all_goals rfl
 ·(simp (disch := omega) only [go_sem, e1, e2])
 ·(simp (disch := omega) only [go_sem, e1, e2])
 rintro r1 H1 n1 ⟨rfl, hn1, hI, O⟩
 have hn1 : n1 = nx + 5 := hn1
 subst hn1
 have O : ∀ id, id < nx -> H1 id = H id := fun id hid => (O id (by show id < nx + 5; omega) (by omega) (by omega) (by omega)).trans (by
  (simp (disch := omega) only [go_sem])
  simp (disch := omega) only [z0c])
 have hb1 := hI.ho
 have hb2 := hI.how
 rw [zl6] at hb1 hb2
 repeat' (first | ((refine zqh fun K hK => ?_); (simp (disch := omega) only [go_sem, Nat.reduceBEq, ↓reduceIte, Nat.reduceAdd, hb1])) | refine zqn ?_ | refine zqu (by simp only [go_sem]; rfl) rfl ?_ | (refine hK _ ?_; clear hK K))
 refine ⟨fun id hid => O id hid, fun _ => nx + 2, fun i j hi hj _ => ?_, fun _ _ => ?_, ?_, fun j hj => ?_⟩
 ·simp only [List.length_cons, List.length_nil] at hi hj; omega
 ·show nx <= nx + 2; omega
 ·rfl
 ·simp only [List.length_cons, List.length_nil] at hj
  obtain rfl : j = 0 := by omega
  exact hb2
set_option maxHeartbeats 16000000 in
theorem zp9 (A B : T) (fa : Fit50 A) (fb : Fit50 B) : PC prog 42 [z1n A, z1n B] (z48 (if z9g A B = true then zos A B else [])) := by
 have c1 := zur A B fa fb
 refine z3l 3 (by simp only [pureD.pureL, z0n, Bool.and_self]) (ze6 _) (z2o [] func42 rfl (by decide +kernel) rfl ?_)
 show awp _ _ (Code.seq _ _) _ _
 cases hc : z9g A B
 ·have e1 : z7k A B = [] := by unfold z7k; rw [hc]; rfl
  have e2 : z91 A B = .tup [.agg zeroPr, .bool false] := by unfold z91; rw [hc]; rfl
  rw [e1, e2] at c1
  repeat' (first | refine zqj ?_ | ((first | refine zqh fun K hK => ?_ | refine z9k (c1) ?_); (simp (disch := omega) only [go_sem, Nat.reduceBEq, ↓reduceIte, Nat.reduceAdd, Nat.reduceLeDiff])) | (refine zqd _ rfl ?_ ?_ <;> intro hc <;> (first | (cases hc; done) | ((try simp only [] at hc); (try omega)))) | refine zqg ?_ | refine zqu (by simp only [go_sem]; rfl) rfl ?_ | (refine hK _ ?_; clear hK K))
  rw [if_neg (by decide)]
  exact z21 rfl (Le.nil 3)
 ·have e1 : z7k A B = [.map (mapI encPl (plcs A)), .map (mapI encPl (plcs B))] := by unfold z7k; rw [hc]; rfl
  have e2 : z91 A B = .tup [.agg (cellsPr A B 0 1), .bool true] := by unfold z91; rw [hc]; rfl
  rw [e1, e2] at c1
  obtain ⟨ba, bb, _⟩ := (zaj A B).1 hc
  have hren : renD.renL (fun j => 2 + j) (cellsPr A B 0 1) = cellsPr A B 2 3 := by rw [z1y, z1y]; rfl
  repeat' (first | refine zqj ?_ | ((first | refine zqh fun K hK => ?_ | refine z9k (c1) ?_); (simp (disch := omega) only [go_sem, Nat.reduceBEq, ↓reduceIte, Nat.reduceAdd, Nat.reduceLeDiff, hren])) | (refine zqd _ rfl ?_ ?_ <;> intro hc <;> (first | (cases hc; done) | ((try simp only [] at hc); (try omega)))) | refine zqb ?_ | (refine hK _ ?_; clear hK K))
  refine zhi (zp8 fa fb ba bb 2 3 _ _ ?_ ?_) ?_
  ·show 2 < 5; decide
  ·(simp (disch := omega) only [go_sem, Nat.reduceBEq])
  (try (simp (disch := omega) only [go_sem, Nat.reduceBEq, Nat.reduceAdd])); repeat' (first | refine zqn ?_ | refine zqu (by simp only [go_sem]; rfl) rfl ?_ | (refine hK _ ?_; clear hK K))
  rw [if_pos rfl]
  refine zbh (nx := 0) ?_
  refine z29 (f := cellsId) (l := zos A B) 1 ?_ zci zhe (fun _ => rfl) (fun _ => rfl)
  (simp (disch := omega) only [go_sem, Nat.reduceBEq])
end
end Go.Proofs.YtfechgagcgbldaaDoor
