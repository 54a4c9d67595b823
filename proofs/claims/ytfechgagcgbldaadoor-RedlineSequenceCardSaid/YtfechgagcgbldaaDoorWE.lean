import Derived.Test.YtfechgagcgbldaaDoorWD
import Derived.WalkKit
import Derived.Lib.Walk
import Derived.Lib.SliceRun
import Derived.Lib.AppendZerosOnto
import Derived.Lib.Overlaps
import Derived.Laws.Externs
import Derived.Laws.NewBlocks
import Derived.Shelf.Spec.SlicesInsert
/-
 Lemmas of the claim. No condition but those that each names.
-/
set_option linter.unusedSimpArgs false
set_option linter.unusedVariables false
set_option maxHeartbeats 8000000
set_option linter.unusedSectionVars false
namespace Go.Proofs.YtfechgagcgbldaaDoor.Abs
open Go.RowKit
variable {P : Program}
inductive OT where
 | run (l : List Nat)
 | fork (l : List Nat) (a b : OT)
def OT.pre (l : List Nat) : OT -> OT
 | .run m => .run (l ++ m)
 | .fork m a b => .fork (l ++ m) a b
def OT.isDone : OT -> Bool
 | .run [] => true
 | _ => false
def zdk (P : Program) (own : List Nat) (ops : Array Oper) (K : St -> Prop) : OT -> St -> Prop
 | .run l, st => z6h P own ops K l st
 | .fork l a b, st => z6h P own ops (fun st => zdk P own ops K a st /\ zdk P own ops K b st) l st
def zwf (cm : Nat -> Nat -> Bool) (i : Nat) : List Nat -> Option (List Nat)
 | [] => none
 | j :: l => if j == i then some l else if cm j i then (zwf cm i l).map (j :: ·) else none
def zs4 (cm : Nat -> Nat -> Bool) (i : Nat) : OT -> Option OT
 | .run l => (zwf cm i l).map .run
 | .fork l a b => if l.contains i then (zwf cm i l).map fun m => .fork m a b else
   if l.all (fun j => cm j i) then (match zs4 cm i a, zs4 cm i b with
    | some t, none => some (t.pre l)
    | none, some t => some (t.pre l)
    | _, _ => none) else none
def zle (cm : Nat -> Nat -> Bool) (ops : Array Oper) : Nat -> Array Bool -> OT -> Bool
 | 0, listed, t => (Region.ready .any ops listed).isEmpty && t.isDone
 | n + 1, listed, t => if (Region.ready .any ops listed).isEmpty then t.isDone else (Region.ready .any ops listed).all fun i => match zs4 cm i t with
  | some t' => decide (i < ops.size) && zle cm ops n (listed.setIfInBounds i true) t'
  | none => false
section
variable {own : List Nat} {ops : Array Oper} {K : St -> Prop} {cm : Nat -> Nat -> Bool}
theorem zcy {i : Nat} : ∀ {l m : List Nat}, zwf cm i l = some m -> ∃ r1 r2, l = r1 ++ i :: r2 /\ m = r1 ++ r2 /\ ∀ j ∈ r1, cm j i = true
 | [], m, h => by cases h
 | j :: l, m, h => by
  unfold zwf at h
  split at h
  ·rename_i he
   rw [beq_iff_eq] at he
   subst he
   cases h
   exact ⟨[], l, rfl, rfl, fun j hj => by cases hj⟩
  ·split at h
   ·rename_i hc
    simp only [Option.map_eq_some_iff] at h
    obtain ⟨m', hm, rfl⟩ := h
    obtain ⟨r1, r2, rfl, rfl, h3⟩ := zcy hm
    refine ⟨j :: r1, r2, rfl, rfl, fun k O => ?_⟩
    rcases List.mem_cons.1 O with rfl | O
    ·exact hc
    ·exact h3 k O
   ·cases h
theorem zzz (l : List Nat) (t : OT) (st : St) : zdk P own ops K (t.pre l) st = z6h P own ops (zdk P own ops K t) l st := by
 cases t with
 | run m => unfold OT.pre; unfold zdk; rw [z2s]; congr 1
 | fork m a b => unfold OT.pre; unfold zdk; rw [z2s]; congr 1
def zdl (P : Program) (own : List Nat) (ops : Array Oper) (x y : Oper) : Prop := ∀ (st : St) (dx dy : D) (H1 H2 : HM) (n1 n2 : Nat), z0l P own ops x st dx H1 n1 -> z0l P own ops y (st.next x dx H1 n1) dy H2 n2 ->
  ∃ H3 n3, z0l P own ops y st dy H3 n3 /\ z0l P own ops x (st.next y dy H3 n3) dx H2 n2 /\ (st.next x dx H1 n1).next y dy H2 n2 = (st.next y dy H3 n3).next x dx H2 n2
def isMk (o : Oper) : Bool := match o.op with
 | .makeMap _ none => true
 | _ => false
def z000 (own : List Nat) (ops : Array Oper) (x y : Oper) : Bool := x.apart ops y && ((z7o own x && isMk y) || (isMk x && z7o own y))
theorem zp0 {x : Oper} {st : St} {d : D} {H : HM} {nx : Nat} (O : isMk x = true) (h : z0l P own ops x st d H nx) : z95 st H nx := by
 unfold isMk at O
 split at O
 ·rename_i t hop
  unfold z0l at h
  rcases h with ⟨hg, ⟨f, args, tys, g, cap, hop2, _⟩ | hs⟩ | ⟨hg, h1, h2, h3⟩
  ·rw [hop] at hop2; cases hop2
  ·have h0 := hs.1
   unfold opR at h0
   simp only [hop, Option.map_eq_some_iff, Prod.mk.injEq] at h0
   obtain ⟨_, _, _, rfl, rfl⟩ := h0
   exact zfx st (by intro e cs h; cases h)
  ·subst h2; subst h3; exact z4o st
 ·cases O
theorem zwg {x y : Oper} (hp : z000 own ops x y = true) : zdl P own ops x y := by
 intro st dx dy H1 H2 n1 n2 hx hy
 simp only [z000, Bool.and_eq_true, Bool.or_eq_true] at hp
 obtain ⟨hap, hc⟩ := hp
 obtain ⟨ha1, ha2, ha3⟩ := Oper.apart_spec hap
 have ty : ∀ t ∈ y.looksAt ops, (st.next x dx H1 n1).t t = st.t t := fun t ht => z9o (fun e => ha1 t e ht)
 have tx : ∀ H n t, t ∈ x.looksAt ops -> st.t t = (st.next y dy H n).t t := fun H n t ht => (z9o (fun e => ha3 t e ht)).symm
 have hcomm := fun H3 n3 => zkz (st := st) (x := x) (y := y) (dx := dx) (dy := dy) (H1 := H1) (H2 := H3) (H3 := H2) (n1 := n1) (n2 := n3) (n3 := n2) ha2
 rcases hc with ⟨hl, O⟩ | ⟨O, hl⟩
 ·obtain ⟨rfl, rfl⟩ := z2o (by rw [z7p hl]; omega) hx
  have hy' : z0l P own ops y st dy H2 n2 := z0e ty (z20 ..) (z14 ..) hy
  have hs := zp0 O hy'
  refine ⟨H2, n2, hy', ?_, hcomm _ _⟩
  exact z0e (st := st.withH H2 n2) (fun t ht => tx _ _ t ht) (z20 ..).symm (z14 ..).symm ((z6u hl hs).1 hx)
 ·have hs := zp0 O hx
  obtain ⟨h1, h2⟩ := z2o (by rw [z7p hl]; omega) hy
  rw [z20] at h1; rw [z14] at h2
  subst h1; subst h2
  have hy' : z0l P own ops y (st.withH H2 n2) dy H2 n2 := z0e ty (z20 ..) (z14 ..) hy
  refine ⟨st.H, st.nx, (z6u hl hs).2 hy', ?_, hcomm _ _⟩
  exact z0e (fun t ht => tx _ _ t ht) (z20 ..).symm (z14 ..).symm hx
theorem zlf {i : Nat} {oi : Oper} (hi : ops[i]? = some oi) : ∀ (r1 r2 : List Nat) (st : St),
  (∀ j ∈ r1, ∀ oj, ops[j]? = some oj -> zdl P own ops oj oi) -> z6h P own ops K (r1 ++ i :: r2) st -> z6h P own ops K (i :: (r1 ++ r2)) st
 | [], r2, st, _, h => h
 | j :: r1, r2, st, hp, h => by
  simp only [List.cons_append, z6h] at h
  obtain ⟨oj, dj, Hj, nj, hoj, hsj, h⟩ := h
  have h' := zlf hi r1 r2 _ (fun k O => hp k (List.mem_cons_of_mem _ O)) h
  simp only [z6h] at h'
  obtain ⟨o', di, Hi, ni, hoi, hsi, h'⟩ := h'
  rw [hi] at hoi
  cases hoi
  obtain ⟨H3, n3, h1, h2, h3⟩ := hp j (by simp) oj hoj _ _ _ _ _ _ _ hsj hsi
  simp only [List.cons_append, z6h]
  exact ⟨oi, di, H3, n3, hi, h1, oj, dj, Hi, ni, hoj, h2, by rw [<- h3]; exact h'⟩
theorem pullKS {K1 K2 : St -> Prop} {i : Nat} {oi : Oper} (hi : ops[i]? = some oi) (r : List Nat) (st : St)
  (hp : ∀ j ∈ r, ∀ oj, ops[j]? = some oj -> zdl P own ops oj oi) (O : ∀ st, K1 st -> z6h P own ops K2 [i] st) (h : z6h P own ops K1 r st) : z6h P own ops K2 (i :: r) st := by
 have h1 := z4w O r st h
 rw [<- z2s] at h1
 have := zlf hi r [] st hp h1
 rwa [List.append_nil] at this
theorem zat (hcm : ∀ j i oj oi, cm j i = true -> ops[j]? = some oj -> ops[i]? = some oi -> zdl P own ops oj oi) {i : Nat} {oi : Oper} (hi : ops[i]? = some oi) :
  ∀ (t t' : OT) (st : St), zs4 cm i t = some t' -> zdk P own ops K t st -> z6h P own ops (zdk P own ops K t') [i] st
 | .run l, t', st, h, hr => by
  simp only [zs4, Option.map_eq_some_iff] at h
  obtain ⟨m, hm, rfl⟩ := h
  obtain ⟨r1, r2, rfl, rfl, h3⟩ := zcy hm
  exact zlf hi r1 r2 st (fun j hj oj hoj => hcm j i oj oi (h3 j hj) hoj hi) hr
 | .fork l a b, t', st, h, hr => by
  unfold zs4 at h
  split at h
  ·simp only [Option.map_eq_some_iff] at h
   obtain ⟨m, hm, rfl⟩ := h
   obtain ⟨r1, r2, rfl, rfl, h3⟩ := zcy hm
   exact zlf hi r1 r2 st (fun j hj oj hoj => hcm j i oj oi (h3 j hj) hoj hi) hr
  ·split at h
   ·rename_i hall
    have hp : ∀ j ∈ l, ∀ oj, ops[j]? = some oj -> zdl P own ops oj oi := fun j hj oj hoj => hcm j i oj oi (List.all_eq_true.1 hall j hj) hoj hi
    have go : ∀ t : OT, (∀ st, (zdk P own ops K a st /\ zdk P own ops K b st) -> z6h P own ops (zdk P own ops K t) [i] st) -> z6h P own ops (zdk P own ops K (t.pre l)) [i] st := by
     intro t ht
     have h1 := pullKS hi l st hp ht hr
     have e : zdk P own ops K (t.pre l) = z6h P own ops (zdk P own ops K t) l := funext fun st => zzz l t st
     rw [e]
     exact h1
    split at h
    ·rename_i t h1 h2
     cases h
     exact go t fun st hh => zat hcm hi a t st h1 hh.1
    ·rename_i t h1 h2
     cases h
     exact go t fun st hh => zat hcm hi b t st h2 hh.2
    ·cases h
   ·cases h
theorem z001 {N : Nat} {Q : Exit -> Act -> World -> Prop} (hcm : ∀ j i oj oi, cm j i = true -> ops[j]? = some oj -> ops[i]? = some oi -> zdl P own ops oj oi) (hdst : ∀ (i : Nat) o, ops[i]? = some o -> z3p N o = true) :
  ∀ (fuel : Nat) (listed : Array Bool) (t : OT) (st : St) (s : RS) (a : Act) (w : World), zle cm ops fuel listed t = true -> zdk P own ops K t st -> Fr P N st s a w ->
  (∀ st' s' a' w', K st' -> Fr P N st' s' a' w' -> Step s w s' w' -> Q .normal a' w') -> wpAny P .any ops Q fuel listed a w := by
 have hend : ∀ (t : OT) (st : St), t.isDone = true -> zdk P own ops K t st -> K st := fun t st h hr => by
  cases t with
  | run l => cases l with
   | nil => exact hr
   | cons i l => cases h
  | fork l a b => cases h
 intro fuel
 induction fuel with
 | zero =>
  intro listed t st s a w hc hr hf O
  simp only [zle, Bool.and_eq_true, List.isEmpty_iff] at hc
  exact ⟨hc.1, O st s a w (hend t st hc.2 hr) hf (Step.refl s w)⟩
 | succ fuel ih =>
  intro listed t st s a w hc hr hf O
  unfold zle at hc
  refine ⟨fun h0 => ?_, fun i hi => ?_⟩
  ·rw [if_pos (by rw [h0]; rfl)] at hc
   exact O st s a w (hend t st hc hr) hf (Step.refl s w)
  ·rw [if_neg (by intro e; rw [List.isEmpty_iff] at e; rw [e] at hi; cases hi)] at hc
   have h1 := List.all_eq_true.1 hc i hi
   split at h1
   ·rename_i t' ht
    simp only [Bool.and_eq_true, decide_eq_true_eq] at h1
    have hoi := Array.getElem?_eq_getElem h1.1
    obtain ⟨o, d, H, nx, ho, hstep, hrest⟩ := zat hcm hoi t t' st ht hr
    exact z49 ho (hdst i o ho) hf hstep fun s' a' w' hf' hs' => ih _ t' _ s' a' w' h1.2 hrest hf' fun st2 s2 a2 w2 hK2 hf2 hs2 => O st2 s2 a2 w2 hK2 hf2 (hs'.trans hs2)
   ·cases h1
def cmL (cs : List (Nat × Nat)) (j i : Nat) : Bool := cs.any fun p => p.1 == j && p.2 == i
def cmOK (own : List Nat) (ops : Array Oper) (cs : List (Nat × Nat)) : Bool := cs.all fun p => match ops[p.1]?, ops[p.2]? with
 | some x, some y => za8 own ops x y || z000 own ops x y
 | _, _ => true
theorem cm_ok {cs : List (Nat × Nat)} (h : cmOK own ops cs = true) : ∀ j i oj oi, cmL cs j i = true -> ops[j]? = some oj -> ops[i]? = some oi -> zdl P own ops oj oi := by
 intro j i oj oi hc hj hi
 obtain ⟨p, hp, hpe⟩ := List.any_eq_true.1 hc
 simp only [Bool.and_eq_true, beq_iff_eq] at hpe
 have h1 := List.all_eq_true.1 h p hp
 rw [hpe.1, hpe.2, hj, hi] at h1
 simp only [Bool.or_eq_true] at h1
 rcases h1 with h1 | h1
 ·exact fun st dx dy H1 H2 n1 n2 hx hy => swap h1 hx hy
 ·exact zwg h1
theorem zp1 {N id : Nat} {Q : Exit -> St -> Prop} {st : St} (hm : P.follows .mixedOrders = true) (hdst : ∀ o ∈ ops.toList, z3p N o = true) (cs : List (Nat × Nat)) (t : OT) (hcs : cmOK own ops cs = true)
  (hcov : zle (cmL cs) ops ops.size (Array.replicate ops.size false) t = true) (h : zdk P own ops (Q .normal) t st) : Sem P N (.region id ops true) Q st := by
 intro s0 w0 s a w hf hs
 obtain ⟨hds, hdr⟩ := z7x (w' := { w with drawn := w.drawn + 1 }) hf.heap rfl rfl rfl rfl
 have hf' : Fr P N st s a { w with drawn := w.drawn + 1 } := ⟨hf.H, hf.nx, hf.size, hf.defers, hf.tmps, hdr⟩
 have hdst2 : ∀ (i : Nat) o, ops[i]? = some o -> z3p N o = true := fun i o ho => hdst o (by
  obtain ⟨h1, h2⟩ := (Array.getElem?_eq_some_iff.1 ho)
  rw [<- h2]; exact (Array.mem_toList_iff.2 (Array.getElem_mem h1)))
 exact wp_region_any hm (z001 (Q := lift P N s0 w0 Q) (cm_ok hcs) hdst2 ops.size _ t st s a _ hcov h hf' fun st' s' a' w' hK hf2 hs2 => ⟨st', s', hK, hf2, hs.trans (hds.trans hs2)⟩)
theorem z002 {l : List Nat} {os : List Oper} {st : St} (hl : l.map (fun k => ops[k]?) = os.map some) (h : z2j P own (zn2 ops) os K st) : zdk P own ops K (.run l) st := z6c os l st hl h
theorem zwh {l : List Nat} {os : List Oper} {a b : OT} {st : St} (hl : l.map (fun k => ops[k]?) = os.map some) (h : z2j P own (zn2 ops) os (fun st => zdk P own ops K a st /\ zdk P own ops K b st) st) : zdk P own ops K (.fork l a b) st := z6c os l st hl h
end
end Go.Proofs.YtfechgagcgbldaaDoor.Abs
namespace Go.Proofs.YtfechgagcgbldaaDoor
open _root_.Go.Proofs.Tryd
section
open Abs Facts Tr
theorem z1x {a b : Nat} (h : ¬ a = b) : (a == b) = false := by simpa using h
theorem z27 {H : HM} {i j : Nat} (o : Option HObj) (h : ¬ j = i) : z10 H i o j = H j := if_neg h
section
variable {β : Type}
def z83 (enc : β -> D) : List (Idv × β) -> Idv -> D
 | [], _ => .any
 | p :: l, i => if i ∈ l.map (·.1) then z83 enc l i else if p.1 = i then enc p.2 else .any
def mapI (enc : β -> D) (l : List (Idv × β)) : List (D × D) := (z1f (l.map (·.1))).map fun i => (z4x i, z83 enc l i)
theorem z9f (enc : β -> D) (k : Idv) (v : β) (i : Idv) : ∀ l : List (Idv × β), z83 enc (l ++ [(k, v)]) i = if i = k then enc v else z83 enc l i
 | [] => by
  simp only [List.nil_append, z83, List.map_nil, List.not_mem_nil, if_false]
  by_cases h : i = k
  ·rw [if_pos h, if_pos h.symm]
  ·rw [if_neg h, if_neg fun e => h e.symm]
 | p :: l => by
  rw [List.cons_append, z83, z9f enc k v i l, z83]
  by_cases h : i = k
  ·simp [h]
  ·by_cases h2 : i ∈ l.map (·.1)
   ·have h3 : i ∈ (l ++ [(k, v)]).map (·.1) := by rw [List.map_append, List.mem_append]; exact .inl h2
    rw [if_pos h3, if_neg h, if_neg h, if_pos h2]
   ·have h3 : i ∉ (l ++ [(k, v)]).map (·.1) := by
     rw [List.map_append, List.mem_append]
     rintro (h3 | h3)
     ·exact h2 h3
     ·simp at h3; exact h h3
    rw [if_neg h3, if_neg h, if_neg h2]
theorem z8s {enc : β -> D} {k : Idv} {v : β} : ∀ {l : List (Idv × β)}, (l.map (·.1)).Nodup -> (k, v) ∈ l -> z83 enc l k = enc v
 | [], _, h => by cases h
 | p :: l, hn, h => by
  rw [List.map_cons, List.nodup_cons] at hn
  rw [z83]
  rcases List.mem_cons.1 h with e | h
  ·subst e; rw [if_neg hn.1, if_pos rfl]
  ·rw [if_pos (List.mem_map.2 ⟨_, h, rfl⟩), z8s hn.2 h]
theorem z6m (enc : β -> D) (l : List (Idv × β)) (k : Idv) : z3m prog 23 (z4x k) (mapI enc l) = some (if k ∈ l.map (·.1) then some ((z1f (l.map (·.1))).idxOf k, z83 enc l k) else none) := by
 have h := z7u z4x eqK_I (z83 enc l) k (z1f (l.map (·.1)))
 rw [mapI, h]
 by_cases O : k ∈ l.map (·.1)
 ·rw [if_pos O, if_pos (((z3j _).2.1 k).2 O)]
 ·rw [if_neg O, if_neg fun h2 => O (((z3j _).2.1 k).1 h2)]
theorem ze4 (enc : β -> D) (l : List (Idv × β)) : (mapI enc l).length = (z1f (l.map (·.1))).length := by rw [mapI, List.length_map]
theorem zy4 (enc : β -> D) (l : List (Idv × β)) (k : Idv) (v : β) : zse (mapI enc l) (z4x k) (enc v) (z3m prog 23 (z4x k) (mapI enc l)) = some (.map (mapI enc (l ++ [(k, v)]))) := by
 have h := z7u z4x eqK_I (z83 enc l) k (z1f (l.map (·.1)))
 rw [mapI, h]
 unfold mapI
 rw [List.map_append, List.map_cons, List.map_nil, z9u]
 by_cases O : k ∈ z1f (l.map (·.1))
 ·rw [if_pos O, if_pos O]
  simp only [zse, Option.some.injEq, HObj.map.injEq]
  rw [z4m z4x (z83 enc l) k (enc v) _ (z3j _).1 O]
  exact List.map_congr_left fun i _ => by rw [z9f]
 ·rw [if_neg O, if_neg O]
  simp only [zse, Option.some.injEq, HObj.map.injEq]
  rw [List.map_append, List.map_cons, List.map_nil, z9f, if_pos rfl]
  congr 1
  refine List.map_congr_left fun i hi => ?_
  have hik : ¬ i = k := fun e => O (by rw [<- e]; exact hi)
  rw [z9f, if_neg hik]
theorem zcd (enc : β -> D) (l : List (Idv × β)) (k : Idv) (v : β) :
  (k ∈ l.map (·.1) /\ ∃ n, z3m prog 23 (.agg [.int .i64 k.act, .int .i64 k.item, .int .i64 k.n]) (mapI enc l) = some (some (n, z83 enc l k)) /\ z7b (mapI enc l) n (enc v) = mapI enc (l ++ [(k, v)])) \/
  (k ∉ l.map (·.1) /\ z3m prog 23 (.agg [.int .i64 k.act, .int .i64 k.item, .int .i64 k.n]) (mapI enc l) = some none /\ mapI enc l ++ [(.agg [.int .i64 k.act, .int .i64 k.item, .int .i64 k.n], enc v)] = mapI enc (l ++ [(k, v)])) := by
 have h1 := z6m enc l k
 have h2 := zy4 enc l k v
 rw [h1] at h2
 by_cases O : k ∈ l.map (·.1)
 ·rw [if_pos O] at h1 h2
  simp only [zse, Option.some.injEq, HObj.map.injEq] at h2
  exact .inl ⟨O, _, h1, h2⟩
 ·rw [if_neg O] at h1 h2
  simp only [zse, Option.some.injEq, HObj.map.injEq] at h2
  exact .inr ⟨O, h1, h2⟩
end
end
section
open Abs Facts Tr
attribute [local irreducible] awp
set_option maxRecDepth 100000
theorem zbb : ∀ l : List (Nat × Nat), z1j 2 (l.map fun p => D.agg (z2f p)) = some (l.flatMap z2f)
 | [] => rfl
 | p :: l => by
  rw [List.map_cons, List.flatMap_cons]
  unfold z1j
  rw [zbb l]
  rfl
def rowP (l : List (Nat × Nat)) : HObj := .row 90 l.length (l.flatMap z2f)
theorem ztv (l : List (Nat × Nat)) (hl : l.length <= 1000000) (H : HM) (nx : Nat) : AC prog 64 [zwt l] H nx fun r H' nx' => r = .osl nx l.length /\ H' = z10 H nx (some (rowP l)) /\ nx' = nx + 1 := by
 refine AC.split (pre := []) (post := []) (sz := 2) (els := l.map fun p => .agg (z2f p)) (fun he => ?_) ?_
 ·have hl0 : l = [] := by simpa using he
  subst hl0
  have hp : PC prog 64 [.nil] .nil := by
   refine z2q 2 rfl rfl (z2a [] func64 rfl (by decide +kernel) rfl ?_)
   show awp _ _ (Code.seq _ _) _ _
   repeat' (first | refine nxt ?_ | ((refine zqh fun K hK => ?_); (simp (disch := omega) only [go_sem, Nat.reduceBEq, ↓reduceIte])) | (refine zqd _ rfl ?_ ?_ <;> intro hc <;> (first | (cases hc; done) | ((try simp only [] at hc); (try omega)))) | refine zqu (by simp only [go_sem]; rfl) rfl ?_ | (refine hK _ ?_; clear hK K))
   exact z1r rfl (Le.refl _)
  exact zut 90 (hp.ac ⟨rfl, rfl, rfl, rfl⟩)
 ·have ho : OC prog 64 [.rsl true 2 (l.map fun p => .agg (z2f p))] [rowP l] (.osl 0 l.length) := by
   refine zi3 (by simp only [pureD.pureL, pureD, z0f (f := fun p => D.agg (z2f p)) (fun _ => rfl) l, Bool.and_self]) rfl (fun o ho => by simp at ho; subst ho; exact z1e (fun _ => rfl) _) (z2a [5] func64 rfl (by decide +kernel) rfl ?_)
   show awp _ _ (Code.seq _ _) _ _
   repeat' (first | refine nxt ?_ | ((refine zqh fun K hK => ?_); (simp (disch := omega) only [go_sem, Nat.reduceBEq, ↓reduceIte, reduceCtorEq, Nat.reduceAdd, Nat.reduceMul, zbb])) | (refine zqd _ rfl ?_ ?_ <;> intro hc <;> (first | (cases hc; done) | ((try simp only [] at hc); (try omega)))) | refine zqu (by simp only [go_sem]; rfl) rfl ?_ | (refine hK _ ?_; clear hK K))
   refine ⟨fun _ => 0, fun i j hi hj _ => by simp at hi hj; omega, ?_, fun j hj => ?_⟩
   ·(simp (disch := omega) only [go_sem, Nat.reduceBEq, renD])
   ·obtain rfl : j = 0 := by simp at hj; omega
    (simp (disch := omega) only [go_sem, rowP])
    try rfl
  exact ho.ac ⟨by simp [renD], rfl, rfl⟩
theorem zjy (l : List (Nat × Nat)) (hl : l.length <= 1000000) : OC prog 64 [zwt l] [rowP l] (.osl 0 l.length) :=
 ⟨by simp only [pureD.pureL, zjm, Bool.and_self], rfl, fun o ho => by simp at ho; subst ho; exact z1e (fun _ => rfl) _, fun H nx => (ztv l hl H nx).mono fun r H' nx' ⟨h1, h2, h3⟩ => ⟨by rw [h1]; rfl, h2, h3⟩⟩
theorem zo0 (l : List Wd) (hl : l.length <= 1000000) : PC prog 59 [z0s l] (z28 (txt l)) := by
 refine z2q 2 (by simp only [pureD.pureL, z0q, Bool.and_self]) (z2x _) (z2a [3] func59 rfl (by decide +kernel) rfl ?_)
 show awp _ _ (Code.seq _ _) _ _
 repeat' (first | refine nxt ?_ | ((refine zqh fun K hK => ?_); (simp (disch := omega) only [go_sem, Nat.reduceBEq, ↓reduceIte, z0s])) | (refine hK _ ?_; clear hK K))
 (refine z4g (fun U st => ∃ (k : _), U = l.length - k /\ st.t 3 = .osl 0 k /\ st.t 6 = z0s l /\ st.t 7 = .int .i64 l.length /\ st.t 8 = .int .i64 k /\ st.H 0 = some (.row 9 k (((l.take k).map (·.text)).map .str)) /\ (k <= l.length) /\ (0 < st.nx)) ?_ ?_); rotate_left; (rintro U st ⟨k, rfl, s3, s6, s7, s8, sH0, sp0, sp1⟩); rotate_left
 ·(refine ⟨_, 0, rfl, ?_⟩); (simp (disch := omega) only [go_sem, Nat.reduceBEq, Nat.reduceLT, and_self, Int.natCast_zero, List.map_nil, z0s])
  try simp
 have htk : ∀ h : k < l.length, l.take (k + 1) = l.take k ++ [l[k]] := fun h => List.take_succ_eq_append_getElem h
 repeat' (first | ((first | refine zqh fun K hK => ?_ | refine zqr fun K hK => ?_); (simp (disch := omega) only [go_sem, Nat.reduceBEq, ↓reduceIte, reduceCtorEq, Nat.reduceAdd, Nat.reduceLeDiff, Nat.reduceLT, s3, s6, s7, s8, sH0, z0s])) | (refine zqd _ rfl ?_ ?_ <;> intro hc <;> (((try simp only [z07] at hc); (try omega)))) | refine nxt ?_ | refine zqz ?_ | refine zqu (by simp only [go_sem]; rfl) rfl ?_ | (refine hK _ ?_; clear hK K))
 ·have htk := htk (by omega)
  (refine Exists.intro _ (And.intro ?_ ⟨k + 1, rfl, ?_⟩)); rotate_left; (simp (disch := omega) only [go_sem, Nat.reduceBEq, s3, s6, s7, s8, sH0, true_and, and_true, Int.natCast_add, Int.natCast_one, List.map_append, List.map_cons, List.map_nil, htk]); rotate_left
  ·omega
  ·omega
 ·have O : k = l.length := by omega
  subst O
  rw [List.take_length] at sH0
  have h2 : l.length = (txt l).length := by simp [txt]
  rw [h2] at sH0 ⊢
  exact z64 (z7h 0 sH0 z8d zc2 (by simp) (ze2 _))

theorem zi8 {α β γ : Type} {ga : α -> γ} {gb : β -> γ} {gs : α -> β -> γ} {a : List α} {b : List β} : ∀ (l : List (Nat × Nat)) (i k : Nat), Rise a.length b.length l i k -> (wov ga gb gs a b l i k).length + i + k <= a.length + b.length
 | [], i, k, h => by
  obtain ⟨h1, h2⟩ := h
  simp only [wov, List.length_append, List.length_map, List.length_drop]; omega
 | (x, y) :: l, i, k, h => by
  obtain ⟨h1, h2, h3, h4, h5⟩ := h
  have ih := zi8 (ga := ga) (gb := gb) (gs := gs) l _ _ h5
  rw [wov]
  rw [List.getElem?_eq_getElem h3, List.getElem?_eq_getElem h4]
  simp only [List.length_append, List.length_map, List.length_take, List.length_drop, List.length_cons, List.length_nil]
  omega
theorem zbc {α : Type} (a : List α) {i j : Nat} (h1 : i <= j) (h2 : j < a.length) : (a.drop i).take (j + 1 - i) = (a.drop i).take (j - i) ++ [a[j]] := by
 rw [show j + 1 - i = (j - i) + 1 by omega, List.take_succ_eq_append_getElem (by rw [List.length_drop]; omega), List.getElem_drop]
 congr 2
 simp only [show i + (j - i) = j by omega]
theorem zjz {α β γ : Type} {ga : α -> γ} {gb : β -> γ} {gs : α -> β -> γ} {a : List α} {b : List β} {ps : List (Nat × Nat)} {W out : List γ} {j i k : Nat} (hj : j <= ps.length) (h : out ++ wov ga gb gs a b (ps.drop j) i k = W) (hr : Rise a.length b.length (ps.drop j) i k) :
  ∃ x y, (ps ++ [(a.length, b.length)])[j]? = some (x, y) /\ i <= x /\ x <= a.length /\ k <= y /\ y <= b.length /\ ∃ R, W = out ++ (((a.drop i).take (x - i)).map ga ++ (((b.drop k).take (y - k)).map gb ++ R)) /\
   ((j = ps.length /\ x = a.length /\ y = b.length /\ R = []) \/ (j < ps.length /\ ∃ (hx : x < a.length) (hy : y < b.length), R = gs a[x] b[y] :: wov ga gb gs a b (ps.drop (j + 1)) (x + 1) (y + 1) /\ Rise a.length b.length (ps.drop (j + 1)) (x + 1) (y + 1))) := by
 rcases Nat.lt_or_ge j ps.length with hlt | hge
 ·obtain ⟨x, y⟩ : Nat × Nat := ps[j]
  have V := List.drop_eq_getElem_cons hlt
  obtain ⟨x, y, he⟩ : ∃ x y, ps[j] = (x, y) := ⟨_, _, rfl⟩
  rw [V, he] at h hr
  obtain ⟨h1, h2, h3, h4, h5⟩ := hr
  refine ⟨x, y, by rw [List.getElem?_append_left hlt, List.getElem?_eq_getElem hlt, he], h1, by omega, h2, by omega, _, ?_, .inr ⟨hlt, h3, h4, rfl, h5⟩⟩
  rw [<- h, wov, List.getElem?_eq_getElem h3, List.getElem?_eq_getElem h4]
  rfl
 ·have e : j = ps.length := by omega
  subst e
  rw [List.drop_length] at h hr
  obtain ⟨h1, h2⟩ := hr
  refine ⟨a.length, b.length, by simp, h1, Nat.le_refl _, h2, Nat.le_refl _, [], ?_, .inl ⟨rfl, rfl, rfl, rfl⟩⟩
  rw [<- h, wov, List.take_of_length_le (by rw [List.length_drop]; omega), List.take_of_length_le (by rw [List.length_drop]; omega), List.append_nil]
set_option maxHeartbeats 16000000 in
theorem ztw {H : HM} {nx : Nat} (ga : ByteArray -> Tw) (gb : ByteArray -> Tw) (gs : ByteArray -> ByteArray -> Tw) (a : List ByteArray) (b : List ByteArray) (ha : a.length <= 1000000) (hb : b.length <= 1000000) (ps : List (Nat × Nat)) (hps : ps.length <= 1000000) (hr : Rise a.length b.length ps 0 0)
  {g1 g2 g3 : FuncId} {c1 c2 c3 : List D}
  (h1 : ∀ x ∈ a, ∀ H' n', nx <= n' -> z3t nx H H' -> RC prog g1 (D.str x :: c1) H' n' (.agg (z34 (ga x))))
  (h2 : ∀ y ∈ b, ∀ H' n', nx <= n' -> z3t nx H H' -> RC prog g2 (D.str y :: c2) H' n' (.agg (z34 (gb y))))
  (h3 : ∀ x ∈ a, ∀ y ∈ b, ∀ H' n', nx <= n' -> z3t nx H H' -> RC prog g3 ((fun s : ByteArray => D.str s) x :: (fun s : ByteArray => D.str s) y :: c3) H' n' (.agg (z34 (gs x y)))) :
  AC prog 61 [z28 a, z28 b, zwt ps, .fn g1 c1, .fn g2 c2, .fn g3 c3] H nx fun r H' _ => r = .osl nx (wov ga gb gs a b ps 0 0).length /\ H' nx = some (.row 53 (wov ga gb gs a b ps 0 0).length ((wov ga gb gs a b ps 0 0).flatMap z34)) /\ z3t nx H H' := by
 have cl := zjy ps hps
 have hcl : ps.flatMap z2f ++ [.int .i64 a.length, .int .i64 b.length] = (ps ++ [(a.length, b.length)]).flatMap z2f := by rw [List.flatMap_append]; rfl
 have hgr : z1p true 2 (ps.length + 1) ((ps ++ [(a.length, b.length)]).flatMap z2f) = (ps ++ [(a.length, b.length)]).map fun p => D.agg (z2f p) := by
  have h := z5q (f := z2f) (sz := 2) (fun _ => rfl) (ps ++ [(a.length, b.length)])
  rw [List.length_append] at h
  exact h
 have hpu : pureD.pureL ((ps ++ [(a.length, b.length)]).flatMap z2f) = true := z1e (fun _ => rfl) _
 obtain ⟨W, hW⟩ : ∃ W, W = wov ga gb gs a b ps 0 0 := ⟨_, rfl⟩
 have hWl : W.length <= a.length + b.length := by have := zi8 (ga := ga) (gb := gb) (gs := gs) ps 0 0 hr; rw [hW]; omega
 obtain ⟨L, hL⟩ : ∃ L, L = (ps ++ [(a.length, b.length)]).map fun p => D.agg (z2f p) := ⟨_, rfl⟩
 have hLl : L.length = ps.length + 1 := by rw [hL]; simp
 have hLg : ∀ j (h : j < (ps ++ [(a.length, b.length)]).length), L[j]? = some (.agg [.int .i64 ((ps ++ [(a.length, b.length)])[j].1 : Nat), .int .i64 ((ps ++ [(a.length, b.length)])[j].2 : Nat)]) := fun j h => by
  rw [hL, List.getElem?_map, List.getElem?_eq_getElem h]; rfl
 rw [<- hL] at hgr
 rw [<- hW]
 have hn1 : (nx == nx + 1) = false := z1x (by omega)
 refine (z2a [13, 2000026] func61 rfl (by decide +kernel) rfl ?_)
 show awp _ _ (Code.seq _ _) _ _
 repeat' (first | refine nxt ?_ | ((first | refine z1h (N := 4) rfl fun K hK => ?_ | refine ze3 (cl) ?_); (simp (disch := omega) only [go_sem, Nat.reduceBEq, ↓reduceIte, reduceCtorEq, Nat.reduceAdd, Nat.reduceMul, Nat.reduceLeDiff, z28, rowP, hcl, hgr, hpu, hLl])) | (refine hK _ ?_; clear hK K))
 (refine z4g (fun U st => ∃ (j : _) (i : Nat) (k : Nat) (out : List Tw), U = ps.length + 1 - j /\ st.t 0 = z28 a /\ st.t 1 = z28 b /\ st.t 3 = .fn g1 c1 /\ st.t 4 = .fn g2 c2 /\ st.t 5 = .fn g3 c3 /\ st.t 13 = .osl nx out.length /\ st.t 14 = .int .i64 i /\ st.t 15 = .int .i64 k /\ st.t 26 = .rsl false 2 L /\ st.t 27 = .int .i64 ((ps.length + 1 : Nat) : Int) /\ st.t 28 = .int .i64 j /\ st.H (nx) = some (.row 53 out.length (out.flatMap z34)) /\ (j <= ps.length + 1) /\ (nx < st.nx) /\ (z3t nx H st.H) /\ ((j <= ps.length /\ out ++ wov ga gb gs a b (ps.drop j) i k = W /\ Rise a.length b.length (ps.drop j) i k) \/ (j = ps.length + 1 /\ out = W))) ?_ ?_); rotate_left; (rintro U st ⟨j, i, k, out, rfl, q0, q1, q3, q4, q5, q13, q14, q15, q26, q27, q28, qHnx, qp0, qp1, qp2, qp3⟩); rotate_left
 ·(refine ⟨_, 0, 0, 0, [], rfl, ?_⟩); (simp (disch := omega) only [go_sem, Nat.reduceBEq, reduceCtorEq, true_and, Int.natCast_add, Int.natCast_one, Int.natCast_zero, List.flatMap_nil, List.nil_append, z28, hn1])
  exact ⟨fun id hid => by simp (disch := omega) only [z5i], .inl ⟨hW.symm, hr⟩⟩
 have hq := z02 qp1
 have hst : ∀ {H' : HM} {n' : Nat}, z3t (nx + 1) st.H H' -> z3t nx H H' := fun h id hid => (h id (by omega)).trans (qp2 id hid)
 by_cases hj : j <= ps.length
 ·obtain ⟨hw, hri⟩ : out ++ wov ga gb gs a b (ps.drop j) i k = W /\ Rise a.length b.length (ps.drop j) i k := by
   rcases qp3 with ⟨_, h4, h5⟩ | ⟨h4, _⟩
   ·exact ⟨h4, h5⟩
   ·omega
  clear qp3
  obtain ⟨x, y, hxy, hix, hxa, hky, hyb, R, hWd, hR⟩ := zjz hj hw hri
  have hg : L[j]? = some (.agg [.int .i64 (x : Int), .int .i64 (y : Int)]) := by rw [hL, List.getElem?_map, hxy]; rfl
  have hg : zgn L (j : Int) = some (.agg [.int .i64 (x : Int), .int .i64 (y : Int)]) := by
   unfold zgn
   rw [if_pos ⟨by omega, by omega⟩, Int.toNat_natCast, hg]
  obtain ⟨B, hB⟩ : ∃ B, B = st.nx := ⟨_, rfl⟩
  rw [<- hB] at hq
  have hol : (out ++ ((a.drop i).take (x - i)).map ga).length + ((b.drop k).take (y - k)).length + R.length = W.length := by rw [hWd]; simp; omega
  have hsc : ∀ z, (z34 z).length = 2 := fun z => rfl
  repeat' (first | ((refine z1h (N := 6) rfl fun K hK => ?_); (simp (disch := omega) only [go_sem, Nat.reduceBEq, ↓reduceIte, reduceCtorEq, Nat.reduceAdd, Nat.reduceLeDiff, q26, q27, q28, hg])) | (refine zqd _ rfl ?_ ?_ <;> intro hc <;> (((try simp only [z07] at hc); (try omega)))) | refine nxt ?_ | (refine hK _ ?_; clear hK K))
  have hBn : nx < B := by omega
  (refine z4g (fun U st => ∃ (m : Nat) (o1 : List Tw), U = x - m /\ st.t 0 = z28 a /\ st.t 1 = z28 b /\ st.t 3 = .fn g1 c1 /\ st.t 4 = .fn g2 c2 /\ st.t 5 = .fn g3 c3 /\ st.t 17 = .ptr B 0 /\ st.t 26 = .rsl false 2 L /\ st.t 27 = .int .i64 ((ps.length + 1 : Nat) : Int) /\ st.t 28 = .int .i64 j /\ st.t 13 = .osl nx o1.length /\ st.t 14 = .int .i64 m /\ st.t 15 = .int .i64 k /\ st.H (nx) = some (.row 53 o1.length (o1.flatMap z34)) /\ st.H (B) = some (.box 90 [.int .i64 x, .int .i64 y]) /\ (i <= m) /\ (m <= x) /\ (B < st.nx) /\ (z3t nx H st.H) /\ (o1 = out ++ ((a.drop i).take (m - i)).map ga)) ?_ ?_); rotate_left; (rintro U st ⟨m, o1, rfl, r0, r1, r3, r4, r5, r17, r26, r27, r28, r13, r14, r15, rHnx, rHB, rp0, rp1, rp2, rp3, rp4⟩); rotate_left
  ·(refine ⟨_, i, out, rfl, ?_⟩); (simp (disch := omega) only [go_sem, Nat.reduceBEq, q0, q1, q3, q4, q5, q13, q14, q15, q26, q27, q28, qHnx, true_and, Int.natCast_add, Int.natCast_one, z28, hB])
   refine ⟨Nat.le_refl _, hix, by omega, fun id hid => by simp (disch := omega) only [z5i]; exact qp2 id hid, by simp⟩
  have hrq := z02 rp2
  have hrn := z02 (show nx < st.nx by omega)
  have hBx : (B == nx) = false := z1x (by omega)
  have hxB : (nx == B) = false := z1x (by omega)
  by_cases hm : m < x
  ·have hma : m < a.length := by omega
   have c1 := h1 a[m] (List.getElem_mem hma) st.H st.nx (by omega) rp3
   have htm := zbc a rp0 hma
   have ho1 : o1.length <= 2000000 := by rw [rp4, List.length_append, List.length_map, List.length_take]; simp only [List.length_append, List.length_map, List.length_take] at hol; omega
   repeat' (first | refine nxt ?_ | ((first | refine zqh fun K hK => ?_ | refine zqr fun K hK => ?_ | refine z3v (c1) ?_); (simp (disch := omega) only [go_sem, Nat.reduceBEq, ↓reduceIte, reduceCtorEq, Nat.reduceAdd, Nat.reduceMul, Nat.reduceLeDiff, r0, r3, r17, r13, r14, rHnx, rHB, z28, hsc, List.append_nil])) | (refine zqd _ rfl ?_ ?_ <;> intro hc <;> (((try simp only [z07] at hc); (try omega)))) | (refine hK _ ?_; clear hK K))
   (refine Exists.intro _ (And.intro ?_ ⟨m + 1, o1 ++ [ga a[m]], rfl, ?_⟩)); rotate_left; (simp (disch := omega) only [go_sem, Nat.reduceBEq, r0, r1, r3, r4, r5, r17, r26, r27, r28, r13, r14, r15, rHnx, rHB, true_and, Int.natCast_add, Int.natCast_one, List.flatMap_append, List.flatMap_cons, List.flatMap_nil, List.append_nil, hBx]); rotate_left
   ·omega
   ·exact ⟨by omega, by omega, rp2, fun id hid => by rw [z27 _ (by omega)]; exact rp3 id hid, by rw [rp4, htm, List.map_append, List.append_assoc]; rfl⟩
  ·obtain rfl : m = x := by omega
   repeat' (first | refine nxt ?_ | ((refine z1h (N := 9) rfl fun K hK => ?_); (simp (disch := omega) only [go_sem, Nat.reduceBEq, ↓reduceIte, reduceCtorEq, Nat.reduceAdd, r17, r14, rHB])) | (refine zqd _ rfl ?_ ?_ <;> intro hc <;> (((try simp only [z07] at hc); (try omega)))) | refine zqz ?_ | (refine hK _ ?_; clear hK K))
   (refine z4g (fun U st => ∃ (n : Nat) (o2 : List Tw), U = y - n /\ st.t 0 = z28 a /\ st.t 1 = z28 b /\ st.t 3 = .fn g1 c1 /\ st.t 4 = .fn g2 c2 /\ st.t 5 = .fn g3 c3 /\ st.t 17 = .ptr B 0 /\ st.t 26 = .rsl false 2 L /\ st.t 27 = .int .i64 ((ps.length + 1 : Nat) : Int) /\ st.t 28 = .int .i64 j /\ st.t 13 = .osl nx o2.length /\ st.t 14 = .int .i64 m /\ st.t 15 = .int .i64 n /\ st.H (nx) = some (.row 53 o2.length (o2.flatMap z34)) /\ st.H (B) = some (.box 90 [.int .i64 m, .int .i64 y]) /\ (k <= n) /\ (n <= y) /\ (B < st.nx) /\ (z3t nx H st.H) /\ (o2 = out ++ (((a.drop i).take (m - i)).map ga ++ ((b.drop k).take (n - k)).map gb))) ?_ ?_); rotate_left; (rintro U st ⟨n, o2, rfl, t0, t1, t3, t4, t5, t17, t26, t27, t28, t13, t14, t15, tHnx, tHB, tp0, tp1, tp2, tp3, tp4⟩); rotate_left
   ·(refine ⟨_, k, o1, rfl, ?_⟩); (simp (disch := omega) only [go_sem, Nat.reduceBEq, r0, r1, r3, r4, r5, r17, r26, r27, r28, r13, r14, r15, rHnx, rHB, true_and, Int.natCast_add, Int.natCast_one, z28])
    refine ⟨Nat.le_refl _, hky, rp2, rp3, by rw [rp4]; simp⟩
   have htq := z02 tp2
   have htn := z02 (show nx < st.nx by omega)
   have hto : o2.length + ((b.drop k).take (y - k)).length - ((b.drop k).take (n - k)).length + R.length = W.length /\ o2.length <= 2000000 := by
    rw [tp4]
    simp only [List.length_append, List.length_map, List.length_take, List.length_drop] at hol ⊢
    omega
   by_cases hn : n < y
   ·have hnb : n < b.length := by omega
    have c2 := h2 b[n] (List.getElem_mem hnb) st.H st.nx (by omega) tp3
    have htm := zbc b tp0 hnb
    repeat' (first | refine nxt ?_ | ((first | refine zqh fun K hK => ?_ | refine zqr fun K hK => ?_ | refine z3v (c2) ?_); (simp (disch := omega) only [go_sem, Nat.reduceBEq, ↓reduceIte, reduceCtorEq, Nat.reduceAdd, Nat.reduceMul, Nat.reduceLeDiff, t1, t4, t17, t13, t15, tHnx, tHB, z28, hsc, List.append_nil])) | (refine zqd _ rfl ?_ ?_ <;> intro hc <;> (((try simp only [z07] at hc); (try omega)))) | (refine hK _ ?_; clear hK K))
    (refine Exists.intro _ (And.intro ?_ ⟨n + 1, o2 ++ [gb b[n]], rfl, ?_⟩)); rotate_left; (simp (disch := omega) only [go_sem, Nat.reduceBEq, t0, t1, t3, t4, t5, t17, t26, t27, t28, t13, t14, t15, tHnx, tHB, true_and, Int.natCast_add, Int.natCast_one, List.flatMap_append, List.flatMap_cons, List.flatMap_nil, List.append_nil, hBx]); rotate_left
    ·omega
    ·exact ⟨by omega, by omega, tp2, fun id hid => by rw [z27 _ (by omega)]; exact tp3 id hid, by rw [tp4, htm]; simp⟩
   ·obtain rfl : n = y := by omega
    rcases hR with ⟨rfl, rfl, rfl, rfl⟩ | ⟨hjl, hxl, hyl, rfl, hri2⟩
    ·repeat' (first | refine nxt ?_ | ((first | refine zqh fun K hK => ?_ | refine zqr fun K hK => ?_); (simp (disch := omega) only [go_sem, Nat.reduceBEq, ↓reduceIte, reduceCtorEq, Nat.reduceAdd, t0, t17, t28, t15, tHB, z28])) | ((first | refine zqd _ rfl (fun hc => ?_) (fun hc => ?_) | refine zqm _ rfl (fun hc => ?_) (fun hc => ?_)) <;> (first | (cases hc; done) | ((try simp only [z07] at hc); (try omega)))) | refine zqz ?_ | (refine hK _ ?_; clear hK K) | (refine zqf (fun hb => ?_) (fun hb => ?_) <;> (have hb2 := hb; try simp only [z07] at hb2) <;> ((first | have F := eq_false hb2 | have F := eq_true hb2); (simp (disch := omega) only [go_sem, Nat.reduceBEq, ↓reduceIte, reduceCtorEq, Nat.reduceAdd, F, t1, t17, tHB, z28]); clear hb F; (try omega))))
     (refine Exists.intro _ (And.intro ?_ ⟨ps.length + 1, a.length, b.length, o2, rfl, ?_⟩)); rotate_left; (simp (disch := omega) only [go_sem, Nat.reduceBEq, Nat.reduceLeDiff, t0, t1, t3, t4, t5, t26, t27, t28, t13, t14, t15, tHnx, true_and, Int.natCast_add, Int.natCast_one]); rotate_left
     ·omega
     ·exact ⟨Nat.le_refl _, by omega, tp3, .inr (by rw [hWd, tp4]; simp)⟩
    ·have c3 := h3 a[m] (List.getElem_mem hxl) b[n] (List.getElem_mem hyl) st.H st.nx (by omega) tp3
     repeat' (first | refine nxt ?_ | ((first | refine zqh fun K hK => ?_ | refine zqe (by decide +kernel) fun K hK => ?_ | refine zqr fun K hK => ?_ | refine ziy (c3) rfl ?_); (simp (disch := omega) only [go_sem, Nat.reduceBEq, Nat.reduceEqDiff, ↓reduceIte, reduceCtorEq, Nat.reduceAdd, Nat.reduceMul, Nat.reduceLeDiff, t0, t1, t5, t17, t28, t13, t14, t15, tHnx, tHB, z28, hsc, List.append_nil])) | ((first | refine zqd _ rfl (fun hc => ?_) (fun hc => ?_) | refine zqm _ rfl (fun hc => ?_) (fun hc => ?_)) <;> (((try simp only [z07] at hc); (try omega)))) | refine zqz ?_ | (refine hK _ ?_; clear hK K) | (refine zqf (fun hb => ?_) (fun hb => ?_) <;> (have hb2 := hb; try simp only [z07] at hb2) <;> ((first | have F := eq_false hb2 | have F := eq_true hb2); (simp (disch := omega) only [go_sem, Nat.reduceBEq, ↓reduceIte, reduceCtorEq, Nat.reduceAdd, F, t1, t17, tHB, z28]); clear hb F; (try omega))))
     (refine Exists.intro _ (And.intro ?_ ⟨j + 1, m + 1, n + 1, o2 ++ [gs a[m] b[n]], rfl, ?_⟩)); rotate_left; (simp (disch := omega) only [go_sem, Nat.reduceBEq, Nat.reduceEqDiff, Nat.reduceLeDiff, t0, t1, t3, t4, t5, t26, t27, t28, t13, t14, t15, tHnx, true_and, Int.natCast_add, Int.natCast_one, List.flatMap_append, List.flatMap_cons, List.flatMap_nil, List.append_nil]); rotate_left
     ·omega
     ·exact ⟨by omega, by omega, fun id hid => by rw [z27 _ (by omega)]; exact tp3 id hid, .inl ⟨by omega, by rw [hWd, tp4]; simp, hri2⟩⟩
 ·skip
  repeat' (first | ((refine zqh fun K hK => ?_); (simp (disch := omega) only [go_sem, Nat.reduceBEq, ↓reduceIte, q13, q27, q28])) | (refine zqd _ rfl ?_ ?_ <;> intro hc <;> (((try simp only [z07] at hc); (try omega)))) | refine nxt ?_ | refine zqz ?_ | refine zqu (by simp only [go_sem]; rfl) rfl ?_ | (refine hK _ ?_; clear hK K))
  obtain rfl : out = W := by
   rcases qp3 with ⟨h, _⟩ | ⟨_, h⟩
   ·omega
   ·exact h
  (simp (disch := omega) only [go_sem, Nat.reduceBEq, qHnx])
  exact qp2
set_option maxHeartbeats 16000000 in
theorem ztx {H : HM} {nx : Nat} (ga : T -> TT) (gb : T -> TT) (gs : T -> T -> TT) (a : List T) (b : List T) (ha : a.length <= 1000000) (hb : b.length <= 1000000) (ps : List (Nat × Nat)) (hps : ps.length <= 1000000) (hr : Rise a.length b.length ps 0 0)
  {g1 g2 g3 : FuncId} {c1 c2 c3 : List D}
  (h1 : ∀ x ∈ a, ∀ H' n', nx <= n' -> z3t nx H H' -> RC prog g1 (c1 ++ [z17 x]) H' n' (.agg (z0k (ga x))))
  (h2 : ∀ y ∈ b, ∀ H' n', nx <= n' -> z3t nx H H' -> RC prog g2 (c2 ++ [z17 y]) H' n' (.agg (z0k (gb y))))
  (h3 : ∀ x ∈ a, ∀ y ∈ b, ∀ H' n', nx <= n' -> z3t nx H H' -> RC prog g3 (z17 x :: z17 y :: c3) H' n' (.agg (z0k (gs x y)))) :
  AC prog 46 [z0m a, z0m b, zwt ps, .bfn g1 c1, .bfn g2 c2, .fn g3 c3] H nx fun r H' _ => r = .osl nx (wov ga gb gs a b ps 0 0).length /\ H' nx = some (.row 33 (wov ga gb gs a b ps 0 0).length ((wov ga gb gs a b ps 0 0).flatMap z0k)) /\ z3t nx H H' := by
 have cl := zjy ps hps
 have hcl : ps.flatMap z2f ++ [.int .i64 a.length, .int .i64 b.length] = (ps ++ [(a.length, b.length)]).flatMap z2f := by rw [List.flatMap_append]; rfl
 have hgr : z1p true 2 (ps.length + 1) ((ps ++ [(a.length, b.length)]).flatMap z2f) = (ps ++ [(a.length, b.length)]).map fun p => D.agg (z2f p) := by
  have h := z5q (f := z2f) (sz := 2) (fun _ => rfl) (ps ++ [(a.length, b.length)])
  rw [List.length_append] at h
  exact h
 have hpu : pureD.pureL ((ps ++ [(a.length, b.length)]).flatMap z2f) = true := z1e (fun _ => rfl) _
 obtain ⟨W, hW⟩ : ∃ W, W = wov ga gb gs a b ps 0 0 := ⟨_, rfl⟩
 have hWl : W.length <= a.length + b.length := by have := zi8 (ga := ga) (gb := gb) (gs := gs) ps 0 0 hr; rw [hW]; omega
 obtain ⟨L, hL⟩ : ∃ L, L = (ps ++ [(a.length, b.length)]).map fun p => D.agg (z2f p) := ⟨_, rfl⟩
 have hLl : L.length = ps.length + 1 := by rw [hL]; simp
 have hLg : ∀ j (h : j < (ps ++ [(a.length, b.length)]).length), L[j]? = some (.agg [.int .i64 ((ps ++ [(a.length, b.length)])[j].1 : Nat), .int .i64 ((ps ++ [(a.length, b.length)])[j].2 : Nat)]) := fun j h => by
  rw [hL, List.getElem?_map, List.getElem?_eq_getElem h]; rfl
 rw [<- hL] at hgr
 rw [<- hW]
 have hn1 : (nx == nx + 1) = false := z1x (by omega)
 refine (z2a [13, 2000026] func46 rfl (by decide +kernel) rfl ?_)
 show awp _ _ (Code.seq _ _) _ _
 repeat' (first | refine nxt ?_ | ((first | refine z1h (N := 4) rfl fun K hK => ?_ | refine ze3 (cl) ?_); (simp (disch := omega) only [go_sem, Nat.reduceBEq, ↓reduceIte, reduceCtorEq, Nat.reduceAdd, Nat.reduceMul, Nat.reduceLeDiff, z0m, rowP, hcl, hgr, hpu, hLl])) | (refine hK _ ?_; clear hK K))
 (refine z4g (fun U st => ∃ (j : _) (i : Nat) (k : Nat) (out : List TT), U = ps.length + 1 - j /\ st.t 0 = z0m a /\ st.t 1 = z0m b /\ st.t 3 = .bfn g1 c1 /\ st.t 4 = .bfn g2 c2 /\ st.t 5 = .fn g3 c3 /\ st.t 13 = .osl nx out.length /\ st.t 14 = .int .i64 i /\ st.t 15 = .int .i64 k /\ st.t 26 = .rsl false 2 L /\ st.t 27 = .int .i64 ((ps.length + 1 : Nat) : Int) /\ st.t 28 = .int .i64 j /\ st.H (nx) = some (.row 33 out.length (out.flatMap z0k)) /\ (j <= ps.length + 1) /\ (nx < st.nx) /\ (z3t nx H st.H) /\ ((j <= ps.length /\ out ++ wov ga gb gs a b (ps.drop j) i k = W /\ Rise a.length b.length (ps.drop j) i k) \/ (j = ps.length + 1 /\ out = W))) ?_ ?_); rotate_left; (rintro U st ⟨j, i, k, out, rfl, q0, q1, q3, q4, q5, q13, q14, q15, q26, q27, q28, qHnx, qp0, qp1, qp2, qp3⟩); rotate_left
 ·(refine ⟨_, 0, 0, 0, [], rfl, ?_⟩); (simp (disch := omega) only [go_sem, Nat.reduceBEq, reduceCtorEq, true_and, Int.natCast_add, Int.natCast_one, Int.natCast_zero, List.flatMap_nil, List.nil_append, z0m, hn1])
  exact ⟨fun id hid => by simp (disch := omega) only [z5i], .inl ⟨hW.symm, hr⟩⟩
 have hq := z02 qp1
 have hst : ∀ {H' : HM} {n' : Nat}, z3t (nx + 1) st.H H' -> z3t nx H H' := fun h id hid => (h id (by omega)).trans (qp2 id hid)
 by_cases hj : j <= ps.length
 ·obtain ⟨hw, hri⟩ : out ++ wov ga gb gs a b (ps.drop j) i k = W /\ Rise a.length b.length (ps.drop j) i k := by
   rcases qp3 with ⟨_, h4, h5⟩ | ⟨h4, _⟩
   ·exact ⟨h4, h5⟩
   ·omega
  clear qp3
  obtain ⟨x, y, hxy, hix, hxa, hky, hyb, R, hWd, hR⟩ := zjz hj hw hri
  have hg : L[j]? = some (.agg [.int .i64 (x : Int), .int .i64 (y : Int)]) := by rw [hL, List.getElem?_map, hxy]; rfl
  have hg : zgn L (j : Int) = some (.agg [.int .i64 (x : Int), .int .i64 (y : Int)]) := by
   unfold zgn
   rw [if_pos ⟨by omega, by omega⟩, Int.toNat_natCast, hg]
  obtain ⟨B, hB⟩ : ∃ B, B = st.nx := ⟨_, rfl⟩
  rw [<- hB] at hq
  have hol : (out ++ ((a.drop i).take (x - i)).map ga).length + ((b.drop k).take (y - k)).length + R.length = W.length := by rw [hWd]; simp; omega
  have hsc : ∀ z, (z0k z).length = 11 := fun z => z31 z
  repeat' (first | ((refine z1h (N := 6) rfl fun K hK => ?_); (simp (disch := omega) only [go_sem, Nat.reduceBEq, ↓reduceIte, reduceCtorEq, Nat.reduceAdd, Nat.reduceLeDiff, q26, q27, q28, hg])) | (refine zqd _ rfl ?_ ?_ <;> intro hc <;> (((try simp only [z07] at hc); (try omega)))) | refine nxt ?_ | (refine hK _ ?_; clear hK K))
  have hBn : nx < B := by omega
  (refine z4g (fun U st => ∃ (m : Nat) (o1 : List TT), U = x - m /\ st.t 0 = z0m a /\ st.t 1 = z0m b /\ st.t 3 = .bfn g1 c1 /\ st.t 4 = .bfn g2 c2 /\ st.t 5 = .fn g3 c3 /\ st.t 17 = .ptr B 0 /\ st.t 26 = .rsl false 2 L /\ st.t 27 = .int .i64 ((ps.length + 1 : Nat) : Int) /\ st.t 28 = .int .i64 j /\ st.t 13 = .osl nx o1.length /\ st.t 14 = .int .i64 m /\ st.t 15 = .int .i64 k /\ st.H (nx) = some (.row 33 o1.length (o1.flatMap z0k)) /\ st.H (B) = some (.box 90 [.int .i64 x, .int .i64 y]) /\ (i <= m) /\ (m <= x) /\ (B < st.nx) /\ (z3t nx H st.H) /\ (o1 = out ++ ((a.drop i).take (m - i)).map ga)) ?_ ?_); rotate_left; (rintro U st ⟨m, o1, rfl, r0, r1, r3, r4, r5, r17, r26, r27, r28, r13, r14, r15, rHnx, rHB, rp0, rp1, rp2, rp3, rp4⟩); rotate_left
  ·(refine ⟨_, i, out, rfl, ?_⟩); (simp (disch := omega) only [go_sem, Nat.reduceBEq, q0, q1, q3, q4, q5, q13, q14, q15, q26, q27, q28, qHnx, true_and, Int.natCast_add, Int.natCast_one, z0m, hB])
   refine ⟨Nat.le_refl _, hix, by omega, fun id hid => by simp (disch := omega) only [z5i]; exact qp2 id hid, by simp⟩
  have hrq := z02 rp2
  have hrn := z02 (show nx < st.nx by omega)
  have hBx : (B == nx) = false := z1x (by omega)
  have hxB : (nx == B) = false := z1x (by omega)
  by_cases hm : m < x
  ·have hma : m < a.length := by omega
   have c1 := h1 a[m] (List.getElem_mem hma) st.H st.nx (by omega) rp3
   have htm := zbc a rp0 hma
   have ho1 : o1.length <= 2000000 := by rw [rp4, List.length_append, List.length_map, List.length_take]; simp only [List.length_append, List.length_map, List.length_take] at hol; omega
   repeat' (first | refine nxt ?_ | ((first | refine zqh fun K hK => ?_ | refine zqr fun K hK => ?_ | refine zom (c1) ?_); (simp (disch := omega) only [go_sem, Nat.reduceBEq, ↓reduceIte, reduceCtorEq, Nat.reduceAdd, Nat.reduceMul, Nat.reduceLeDiff, r0, r3, r17, r13, r14, rHnx, rHB, z0m, hsc, List.append_nil])) | (refine zqd _ rfl ?_ ?_ <;> intro hc <;> (((try simp only [z07] at hc); (try omega)))) | (refine hK _ ?_; clear hK K))
   (refine Exists.intro _ (And.intro ?_ ⟨m + 1, o1 ++ [ga a[m]], rfl, ?_⟩)); rotate_left; (simp (disch := omega) only [go_sem, Nat.reduceBEq, r0, r1, r3, r4, r5, r17, r26, r27, r28, r13, r14, r15, rHnx, rHB, true_and, Int.natCast_add, Int.natCast_one, List.flatMap_append, List.flatMap_cons, List.flatMap_nil, List.append_nil, hBx]); rotate_left
   ·omega
   ·exact ⟨by omega, by omega, rp2, fun id hid => by rw [z27 _ (by omega)]; exact rp3 id hid, by rw [rp4, htm, List.map_append, List.append_assoc]; rfl⟩
  ·obtain rfl : m = x := by omega
   repeat' (first | refine nxt ?_ | ((refine z1h (N := 9) rfl fun K hK => ?_); (simp (disch := omega) only [go_sem, Nat.reduceBEq, ↓reduceIte, reduceCtorEq, Nat.reduceAdd, r17, r14, rHB])) | (refine zqd _ rfl ?_ ?_ <;> intro hc <;> (((try simp only [z07] at hc); (try omega)))) | refine zqz ?_ | (refine hK _ ?_; clear hK K))
   (refine z4g (fun U st => ∃ (n : Nat) (o2 : List TT), U = y - n /\ st.t 0 = z0m a /\ st.t 1 = z0m b /\ st.t 3 = .bfn g1 c1 /\ st.t 4 = .bfn g2 c2 /\ st.t 5 = .fn g3 c3 /\ st.t 17 = .ptr B 0 /\ st.t 26 = .rsl false 2 L /\ st.t 27 = .int .i64 ((ps.length + 1 : Nat) : Int) /\ st.t 28 = .int .i64 j /\ st.t 13 = .osl nx o2.length /\ st.t 14 = .int .i64 m /\ st.t 15 = .int .i64 n /\ st.H (nx) = some (.row 33 o2.length (o2.flatMap z0k)) /\ st.H (B) = some (.box 90 [.int .i64 m, .int .i64 y]) /\ (k <= n) /\ (n <= y) /\ (B < st.nx) /\ (z3t nx H st.H) /\ (o2 = out ++ (((a.drop i).take (m - i)).map ga ++ ((b.drop k).take (n - k)).map gb))) ?_ ?_); rotate_left; (rintro U st ⟨n, o2, rfl, t0, t1, t3, t4, t5, t17, t26, t27, t28, t13, t14, t15, tHnx, tHB, tp0, tp1, tp2, tp3, tp4⟩); rotate_left
   ·(refine ⟨_, k, o1, rfl, ?_⟩); (simp (disch := omega) only [go_sem, Nat.reduceBEq, r0, r1, r3, r4, r5, r17, r26, r27, r28, r13, r14, r15, rHnx, rHB, true_and, Int.natCast_add, Int.natCast_one, z0m])
    refine ⟨Nat.le_refl _, hky, rp2, rp3, by rw [rp4]; simp⟩
   have htq := z02 tp2
   have htn := z02 (show nx < st.nx by omega)
   have hto : o2.length + ((b.drop k).take (y - k)).length - ((b.drop k).take (n - k)).length + R.length = W.length /\ o2.length <= 2000000 := by
    rw [tp4]
    simp only [List.length_append, List.length_map, List.length_take, List.length_drop] at hol ⊢
    omega
   by_cases hn : n < y
   ·have hnb : n < b.length := by omega
    have c2 := h2 b[n] (List.getElem_mem hnb) st.H st.nx (by omega) tp3
    have htm := zbc b tp0 hnb
    repeat' (first | refine nxt ?_ | ((first | refine zqh fun K hK => ?_ | refine zqr fun K hK => ?_ | refine zom (c2) ?_); (simp (disch := omega) only [go_sem, Nat.reduceBEq, ↓reduceIte, reduceCtorEq, Nat.reduceAdd, Nat.reduceMul, Nat.reduceLeDiff, t1, t4, t17, t13, t15, tHnx, tHB, z0m, hsc, List.append_nil])) | (refine zqd _ rfl ?_ ?_ <;> intro hc <;> (((try simp only [z07] at hc); (try omega)))) | (refine hK _ ?_; clear hK K))
    (refine Exists.intro _ (And.intro ?_ ⟨n + 1, o2 ++ [gb b[n]], rfl, ?_⟩)); rotate_left; (simp (disch := omega) only [go_sem, Nat.reduceBEq, t0, t1, t3, t4, t5, t17, t26, t27, t28, t13, t14, t15, tHnx, tHB, true_and, Int.natCast_add, Int.natCast_one, List.flatMap_append, List.flatMap_cons, List.flatMap_nil, List.append_nil, hBx]); rotate_left
    ·omega
    ·exact ⟨by omega, by omega, tp2, fun id hid => by rw [z27 _ (by omega)]; exact tp3 id hid, by rw [tp4, htm]; simp⟩
   ·obtain rfl : n = y := by omega
    rcases hR with ⟨rfl, rfl, rfl, rfl⟩ | ⟨hjl, hxl, hyl, rfl, hri2⟩
    ·repeat' (first | refine nxt ?_ | ((first | refine zqh fun K hK => ?_ | refine zqr fun K hK => ?_); (simp (disch := omega) only [go_sem, Nat.reduceBEq, ↓reduceIte, reduceCtorEq, Nat.reduceAdd, t0, t17, t28, t15, tHB, z0m])) | ((first | refine zqd _ rfl (fun hc => ?_) (fun hc => ?_) | refine zqm _ rfl (fun hc => ?_) (fun hc => ?_)) <;> (first | (cases hc; done) | ((try simp only [z07] at hc); (try omega)))) | refine zqz ?_ | (refine hK _ ?_; clear hK K) | (refine zqf (fun hb => ?_) (fun hb => ?_) <;> (have hb2 := hb; try simp only [z07] at hb2) <;> ((first | have F := eq_false hb2 | have F := eq_true hb2); (simp (disch := omega) only [go_sem, Nat.reduceBEq, ↓reduceIte, reduceCtorEq, Nat.reduceAdd, F, t1, t17, tHB, z0m]); clear hb F; (try omega))))
     (refine Exists.intro _ (And.intro ?_ ⟨ps.length + 1, a.length, b.length, o2, rfl, ?_⟩)); rotate_left; (simp (disch := omega) only [go_sem, Nat.reduceBEq, Nat.reduceLeDiff, t0, t1, t3, t4, t5, t26, t27, t28, t13, t14, t15, tHnx, true_and, Int.natCast_add, Int.natCast_one]); rotate_left
     ·omega
     ·exact ⟨Nat.le_refl _, by omega, tp3, .inr (by rw [hWd, tp4]; simp)⟩
    ·have c3 := h3 a[m] (List.getElem_mem hxl) b[n] (List.getElem_mem hyl) st.H st.nx (by omega) tp3
     repeat' (first | refine nxt ?_ | ((first | refine zqh fun K hK => ?_ | refine zqe (by decide +kernel) fun K hK => ?_ | refine zqr fun K hK => ?_ | refine ziy (c3) rfl ?_); (simp (disch := omega) only [go_sem, Nat.reduceBEq, Nat.reduceEqDiff, ↓reduceIte, reduceCtorEq, Nat.reduceAdd, Nat.reduceMul, Nat.reduceLeDiff, t0, t1, t5, t17, t28, t13, t14, t15, tHnx, tHB, z0m, hsc, List.append_nil])) | ((first | refine zqd _ rfl (fun hc => ?_) (fun hc => ?_) | refine zqm _ rfl (fun hc => ?_) (fun hc => ?_)) <;> (((try simp only [z07] at hc); (try omega)))) | refine zqz ?_ | (refine hK _ ?_; clear hK K) | (refine zqf (fun hb => ?_) (fun hb => ?_) <;> (have hb2 := hb; try simp only [z07] at hb2) <;> ((first | have F := eq_false hb2 | have F := eq_true hb2); (simp (disch := omega) only [go_sem, Nat.reduceBEq, ↓reduceIte, reduceCtorEq, Nat.reduceAdd, F, t1, t17, tHB, z0m]); clear hb F; (try omega))))
     (refine Exists.intro _ (And.intro ?_ ⟨j + 1, m + 1, n + 1, o2 ++ [gs a[m] b[n]], rfl, ?_⟩)); rotate_left; (simp (disch := omega) only [go_sem, Nat.reduceBEq, Nat.reduceEqDiff, Nat.reduceLeDiff, t0, t1, t3, t4, t5, t26, t27, t28, t13, t14, t15, tHnx, true_and, Int.natCast_add, Int.natCast_one, List.flatMap_append, List.flatMap_cons, List.flatMap_nil, List.append_nil]); rotate_left
     ·omega
     ·exact ⟨by omega, by omega, fun id hid => by rw [z27 _ (by omega)]; exact tp3 id hid, .inl ⟨by omega, by rw [hWd, tp4]; simp, hri2⟩⟩
 ·skip
  repeat' (first | ((refine zqh fun K hK => ?_); (simp (disch := omega) only [go_sem, Nat.reduceBEq, ↓reduceIte, q13, q27, q28])) | (refine zqd _ rfl ?_ ?_ <;> intro hc <;> (((try simp only [z07] at hc); (try omega)))) | refine nxt ?_ | refine zqz ?_ | refine zqu (by simp only [go_sem]; rfl) rfl ?_ | (refine hK _ ?_; clear hK K))
  obtain rfl : out = W := by
   rcases qp3 with ⟨h, _⟩ | ⟨_, h⟩
   ·omega
   ·exact h
  (simp (disch := omega) only [go_sem, Nat.reduceBEq, qHnx])
  exact qp2
theorem zuv {H : HM} {nx : Nat} (ga : ByteArray -> Tw) (gb : ByteArray -> Tw) (gs : ByteArray -> ByteArray -> Tw) (a : List ByteArray) (b : List ByteArray) (ha : a.length <= 1000000) (hb : b.length <= 1000000) (ps : List (Nat × Nat)) (hps : ps.length <= 1000000) (hr : Rise a.length b.length ps 0 0)
  {g1 g2 g3 : FuncId} {c1 c2 c3 : List D}
  (h1 : ∀ x ∈ a, ∀ H' n', nx <= n' -> z3t nx H H' -> RC prog g1 (D.str x :: c1) H' n' (.agg (z34 (ga x))))
  (h2 : ∀ y ∈ b, ∀ H' n', nx <= n' -> z3t nx H H' -> RC prog g2 (D.str y :: c2) H' n' (.agg (z34 (gb y))))
  (h3 : ∀ x ∈ a, ∀ y ∈ b, ∀ H' n', nx <= n' -> z3t nx H H' -> RC prog g3 ((fun s : ByteArray => D.str s) x :: (fun s : ByteArray => D.str s) y :: c3) H' n' (.agg (z34 (gs x y)))) :
  RC prog 61 [z28 a, z28 b, zwt ps, .fn g1 c1, .fn g2 c2, .fn g3 c3] H nx (z1s (wov ga gb gs a b ps 0 0)) := by
 refine zp3 (k := 2) (z3w _) ((ztw ga gb gs a b ha hb ps hps hr h1 h2 h3).mono fun r H' nx' ⟨e1, e2, e3⟩ => ⟨?_, e3⟩)
 subst e1
 have e4 : hiH nx H' nx = some (.row 53 (wov ga gb gs a b ps 0 0).length ((wov ga gb gs a b ps 0 0).flatMap z34)) := by rw [hi_get (Nat.le_refl _)]; exact e2
 refine ⟨_, z1a (f := z34) (l := wov ga gb gs a b ps 0 0) (id := nx) 0 e4 zzi sizeT53 (fun z => rfl) (fun z => rfl), Le.refl _⟩
theorem zuw {H : HM} {nx : Nat} (ga : T -> TT) (gb : T -> TT) (gs : T -> T -> TT) (a : List T) (b : List T) (ha : a.length <= 1000000) (hb : b.length <= 1000000) (ps : List (Nat × Nat)) (hps : ps.length <= 1000000) (hr : Rise a.length b.length ps 0 0)
  {g1 g2 g3 : FuncId} {c1 c2 c3 : List D}
  (h1 : ∀ x ∈ a, ∀ H' n', nx <= n' -> z3t nx H H' -> RC prog g1 (c1 ++ [z17 x]) H' n' (.agg (z0k (ga x))))
  (h2 : ∀ y ∈ b, ∀ H' n', nx <= n' -> z3t nx H H' -> RC prog g2 (c2 ++ [z17 y]) H' n' (.agg (z0k (gb y))))
  (h3 : ∀ x ∈ a, ∀ y ∈ b, ∀ H' n', nx <= n' -> z3t nx H H' -> RC prog g3 (z17 x :: z17 y :: c3) H' n' (.agg (z0k (gs x y)))) :
  RC prog 46 [z0m a, z0m b, zwt ps, .bfn g1 c1, .bfn g2 c2, .fn g3 c3] H nx (z1z (wov ga gb gs a b ps 0 0)) := by
 refine zp3 (k := 2) (zm9 _) ((ztx ga gb gs a b ha hb ps hps hr h1 h2 h3).mono fun r H' nx' ⟨e1, e2, e3⟩ => ⟨?_, e3⟩)
 subst e1
 have e4 : hiH nx H' nx = some (.row 33 (wov ga gb gs a b ps 0 0).length ((wov ga gb gs a b ps 0 0).flatMap z0k)) := by rw [hi_get (Nat.le_refl _)]; exact e2
 refine ⟨_, z1a (f := z0k) (l := wov ga gb gs a b ps 0 0) (id := nx) 0 e4 zop zw3 (fun z => z31 z) (fun z => z6n z), Le.refl _⟩
def wordD (n : Int) : D := .fn 79 [.rptr (.int .i64 n)]
theorem zmm (n : Int) : PC prog 60 [.int .i64 n] (wordD n) := by
 refine z2q 4 rfl rfl (z2a [] func60 rfl (by decide +kernel) rfl ?_)
 show awp _ _ (Code.seq _ _) _ _
 repeat' (first | ((refine zqh fun K hK => ?_); (simp (disch := omega) only [go_sem, Nat.reduceBEq])) | refine nxt ?_ | refine zqu (by simp only [go_sem]; rfl) rfl ?_ | (refine hK _ ?_; clear hK K))
 refine z64 (zi2 3 rfl (z06 ?_ z3g))
 exact z47 2 rfl z3c (z04 _ rfl)
theorem zik (n : Int) (s : ByteArray) : PC prog 79 [.str s, .rptr (.int .i64 n)] (.agg (z34 (stW n s))) := by
 refine z2q 2 rfl rfl (z2a [] func79 rfl (by decide +kernel) rfl ?_)
 show awp _ _ (Code.seq _ _) _ _
 repeat' (first | ((refine zqh fun K hK => ?_); (simp (disch := omega) only [go_sem, Nat.reduceBEq, ↓reduceIte, Nat.reduceAdd, Nat.reduceLeDiff])) | refine nxt ?_ | refine zqu (by simp only [go_sem]; rfl) rfl ?_ | (refine hK _ ?_; clear hK K))
 exact z1r rfl (Le.refl _)
theorem zux (n : Int) (s t : ByteArray) : PC prog 63 [.str s, .str t, .rptr (wordD n)] (.agg (z34 (stW n s))) := by
 have c1 := zik n s
 refine z2q 2 rfl rfl (z2a [] func63 rfl (by decide +kernel) rfl ?_)
 show awp _ _ (Code.seq _ _) _ _
 repeat' (first | ((first | refine zqh fun K hK => ?_ | refine zqs (c1) ?_); (simp (disch := omega) only [go_sem, Nat.reduceBEq, ↓reduceIte, Nat.reduceAdd, Nat.reduceLeDiff, wordD, z34, stW])) | refine nxt ?_ | refine zqu (by simp only [go_sem]; rfl) rfl ?_ | (refine hK _ ?_; clear hK K))
 exact z1r rfl (Le.refl _)
theorem zck {a b : List ByteArray} : ∀ (l : List (Nat × Nat)) (i k : Nat), zli a b l i k -> i <= a.length -> k <= b.length -> Rise a.length b.length l i k
 | [], _, _, _, h1, h2 => ⟨h1, h2⟩
 | (x, y) :: l, i, k, h, _, _ => by
  obtain ⟨q1, q2, q3, q4, _, q6⟩ := h
  simp only at q1 q2 q3 q4
  exact ⟨q1, q3, q2, q4, zck l _ _ q6 (by omega) (by omega)⟩
theorem z9h (a b : List Wd) (ha : a.length <= 1000000) (hb : b.length <= 1000000) : PC prog 43 [z0s a, z0s b] (z1s (z37 (txt a) (txt b))) := by
 have la : (txt a).length <= 1000000 := by simpa [txt] using ha
 have lb : (txt b).length <= 1000000 := by simpa [txt] using hb
 have c1 := zo0 a ha
 have c2 := zo0 b hb
 have c3 := zmm 0
 have c4 := zmm 2
 have c5 := zmm 1
 have c6 := pc15 (txt a) (txt b) (by unfold maxLen; omega) (by unfold maxLen; omega)
 refine z2q 2 (by simp only [pureD.pureL, z0q, Bool.and_self]) (z3w _) (z2a [] func43 rfl (by decide +kernel) rfl ?_)
 show awp _ _ (Code.seq _ _) _ _
 repeat' (first | ((first | refine zqh fun K hK => ?_ | refine zqs (c1) ?_ | refine zqs (c2) ?_ | refine zqs (c3) ?_ | refine zqs (c4) ?_ | refine zqs (c5) ?_ | refine zqs (c6) ?_); (simp (disch := omega) only [go_sem, Nat.reduceBEq, ↓reduceIte])) | (refine hK _ ?_; clear hK K))
 refine z3v (zuv (stW 2) (stW 1) (fun s _ => stW 0 s) (txt a) (txt b) la lb (Lcs.pairs (txt a) (txt b)) (by have := (Lcs.pairs_le (txt a) (txt b)).1; omega) (zck _ _ _ (z4p _ _) (Nat.zero_le _) (Nat.zero_le _)) (g1 := 79) (g2 := 79) (g3 := 63) (c1 := [.rptr (.int .i64 2)]) (c2 := [.rptr (.int .i64 1)]) (c3 := [.ptr 0 0])
  (fun x _ H' n' _ _ => (zik 2 x).rc H' n') (fun x _ H' n' _ _ => (zik 1 x).rc H' n') (fun x _ y _ H' n' _ hs => PC.borrow (zux 0 x y) rfl 3 (z06 (z04 _ rfl) (z06 (z04 _ rfl) (z06 (z47 2 ((hs 0 (by show 0 < 1; omega)).trans rfl) zw6 (z04 _ rfl)) z3g))))) ?_
 (try (simp (disch := omega) only [go_sem, Nat.reduceBEq, ↓reduceIte])); repeat' (first | refine nxt ?_ | refine zqu (by simp only [go_sem]; rfl) rfl ?_ | (refine hK _ ?_; clear hK K))
 exact z1r (z3w _) (Le.refl _)
end
end Go.Proofs.YtfechgagcgbldaaDoor
namespace Go.Proofs.YtfechgagcgbldaaDoor.Lis

def upd1 (x : Int) (acc : Int) (p : Int × Int) : Int := if x < p.1 then max acc (p.2 + 1) else acc
def rows : List Int -> List Int
 | [] => []
 | x :: xs => ((xs.zip (rows xs)).foldl (upd1 x) 1) :: rows xs
theorem rows_length : ∀ l, (rows l).length = l.length
 | [] => rfl
 | x :: xs => by simp [rows, rows_length xs]
def most (l : List Int) : Int := (rows l).foldr max 0

def sel1 (l : List Int) (m : Int) (out : List Nat) (i : Nat) : List Nat :=
 if (out.length : Int) < m /\ (rows l).getD i 0 = m - out.length /\ (out = [] \/ l.getD (out.getLastD 0) 0 < l.getD i 0) then out ++ [i] else out
def sel (l : List Int) (n : Nat) : List Nat := (List.range n).foldl (sel1 l (most l)) []
def lis (l : List Int) : List Nat := if l.length > 256 then [] else sel l l.length
theorem sel_succ (l : List Int) (n : Nat) : sel l (n + 1) = sel1 l (most l) (sel l n) n := by
 simp [sel, List.range_succ]
theorem sel_lt (l : List Int) : ∀ n, ∀ i ∈ sel l n, i < n
 | 0, i, h => by simp [sel] at h
 | n + 1, i, h => by
  rw [sel_succ] at h
  unfold sel1 at h
  split at h
  ·rcases List.mem_append.1 h with h | h
   ·have := sel_lt l n i h; omega
   ·simp at h; omega
  ·have := sel_lt l n i h; omega

theorem zmg (x : Int) : ∀ (ps : List (Int × Int)) (a : Int), a <= ps.foldl (upd1 x) a
 | [], a => by simp
 | p :: ps, a => by
  simp only [List.foldl_cons]
  have h1 := zmg x ps (upd1 x a p)
  have h2 : a <= upd1 x a p := by unfold upd1; split <;> omega
  omega
theorem zdy (x : Int) : ∀ (ps : List (Int × Int)) (a : Int) (p : Int × Int), p ∈ ps -> x < p.1 -> p.2 + 1 <= ps.foldl (upd1 x) a
 | q :: ps, a, p, hp, hx => by
  simp only [List.foldl_cons]
  rcases List.mem_cons.1 hp with rfl | hp
  ·have h1 := zmg x ps (upd1 x a p)
   have h2 : p.2 + 1 <= upd1 x a p := by unfold upd1; rw [if_pos hx]; omega
   omega
  ·exact zdy x ps _ p hp hx
theorem zh3 (x : Int) : ∀ (ps : List (Int × Int)) (a : Int), ps.foldl (upd1 x) a = a \/ ∃ p ∈ ps, x < p.1 /\ ps.foldl (upd1 x) a = p.2 + 1
 | [], a => .inl rfl
 | q :: ps, a => by
  simp only [List.foldl_cons]
  rcases zh3 x ps (upd1 x a q) with h | ⟨p, hp, h1, h2⟩
  ·unfold upd1 at h ⊢
   by_cases hx : x < q.1
   ·rw [if_pos hx] at h ⊢
    by_cases hm : a <= q.2 + 1
    ·have : max a (q.2 + 1) = q.2 + 1 := by omega
     rw [this] at h ⊢
     exact .inr ⟨q, by simp, hx, h⟩
    ·have : max a (q.2 + 1) = a := by omega
     rw [this] at h ⊢
     exact .inl h
   ·rw [if_neg hx] at h ⊢
    exact .inl h
  ·exact .inr ⟨p, List.mem_cons_of_mem _ hp, h1, h2⟩
theorem rows_pos : ∀ (l : List Int), ∀ r ∈ rows l, 1 <= r
 | [], r, h => by simp [rows] at h
 | x :: xs, r, h => by
  simp only [rows] at h
  rcases List.mem_cons.1 h with rfl | h
  ·exact zmg x _ 1
  ·exact rows_pos xs r h
theorem foldr_ge : ∀ (l : List Int), ∀ r ∈ l, r <= l.foldr max 0
 | x :: xs, r, h => by
  simp only [List.foldr_cons]
  rcases List.mem_cons.1 h with rfl | h
  ·omega
  ·have := foldr_ge xs r h; omega
theorem foldr_reach : ∀ (l : List Int), l.foldr max 0 = 0 \/ l.foldr max 0 ∈ l
 | [] => .inl rfl
 | x :: xs => by
  simp only [List.foldr_cons]
  rcases foldr_reach xs with h | h
  ·rw [h]
   by_cases hx : x <= 0
   ·left; omega
   ·right; have : max x 0 = x := by omega
    rw [this]; simp
  ·by_cases hx : x <= xs.foldr max 0
   ·right; have : max x (xs.foldr max 0) = xs.foldr max 0 := by omega
    rw [this]; exact List.mem_cons_of_mem _ h
   ·right; have : max x (xs.foldr max 0) = x := by omega
    rw [this]; simp

theorem rows_step (l : List Int) (i j : Nat) (hij : i < j) (hj : j < l.length) (h : l[i]'(by omega) < l[j]) : (rows l).getD j 0 + 1 <= (rows l).getD i 0 := by
 induction l generalizing i j with
 | nil => simp at hj
 | cons x xs ih =>
  cases i with
  | zero =>
   cases j with
   | zero => omega
   | succ j =>
    simp only [List.length_cons] at hj
    simp only [rows, List.getD_cons_succ, List.getD_cons_zero]
    simp only [List.getElem_cons_zero, List.getElem_cons_succ] at h
    have hl := rows_length xs
    have hmem : (xs[j], (rows xs)[j]'(by omega)) ∈ xs.zip (rows xs) := by
     have : (xs.zip (rows xs))[j]'(by simp; omega) = (xs[j], (rows xs)[j]'(by omega)) := by simp
     rw [<- this]; exact List.getElem_mem _
    have := zdy x _ 1 _ hmem h
    simp only at this
    rw [List.getD_eq_getElem?_getD, List.getElem?_eq_getElem (by omega)]
    simpa using this
  | succ i =>
   cases j with
   | zero => omega
   | succ j =>
    simp only [rows, List.getD_cons_succ]
    simp only [List.getElem_cons_succ] at h
    exact ih i j (by omega) (by simpa using hj) h
theorem rows_next (l : List Int) (i : Nat) (hi : i < l.length) (h : 1 < (rows l).getD i 0) : ∃ j, i < j /\ ∃ hj : j < l.length, l[i] < l[j] /\ (rows l).getD j 0 + 1 = (rows l).getD i 0 := by
 induction l generalizing i with
 | nil => simp at hi
 | cons x xs ih =>
  cases i with
  | zero =>
   simp only [rows, List.getD_cons_zero] at h ⊢
   rcases zh3 x (xs.zip (rows xs)) 1 with h1 | ⟨p, hp, h1, h2⟩
   ·omega
   ·obtain ⟨j, hj, rfl⟩ := List.getElem_of_mem hp
    simp only [List.length_zip] at hj
    have hl := rows_length xs
    refine ⟨j + 1, by omega, by simp; omega, ?_, ?_⟩
    ·simpa using h1
    ·rw [h2]
     simp only [List.getD_cons_succ]
     rw [List.getD_eq_getElem?_getD, List.getElem?_eq_getElem (by omega)]
     simp
  | succ i =>
   simp only [rows, List.getD_cons_succ] at h ⊢
   obtain ⟨j, h1, h2, h3, h4⟩ := ih i (by simpa using hi) h
   exact ⟨j + 1, by omega, by simpa using h2, by simpa using h3, by simpa using h4⟩
end Go.Proofs.YtfechgagcgbldaaDoor.Lis
namespace Go.Proofs.YtfechgagcgbldaaDoor.Lis
theorem rows_at (l : List Int) (j : Nat) (hj : j < l.length) :
  rows (l.drop j) = (((l.drop (j + 1)).zip (rows (l.drop (j + 1)))).foldl (upd1 l[j]) 1) :: rows (l.drop (j + 1)) := by
 rw [List.drop_eq_getElem_cons hj]; rfl
def inner (l : List Int) (j k : Nat) : Int := (((l.drop (j + 1)).zip (rows (l.drop (j + 1)))).take k).foldl (upd1 (l.getD j 0)) 1
theorem inner_zero (l : List Int) (j : Nat) : inner l j 0 = 1 := rfl
theorem inner_succ (l : List Int) (j k : Nat) (O : j + 1 + k < l.length) (cs : List Int) (hcl : cs.length = l.length) (hcd : cs.drop (j + 1) = rows (l.drop (j + 1))) :
  inner l j (k + 1) = upd1 (l[j]'(by omega)) (inner l j k) (l[j + 1 + k], cs[j + 1 + k]'(by omega)) := by
 unfold inner
 have hlen : ((l.drop (j + 1)).zip (rows (l.drop (j + 1)))).length = l.length - (j + 1) := by simp [rows_length]
 rw [List.take_succ_eq_append_getElem (by rw [hlen]; omega), List.foldl_append]
 simp only [List.foldl_cons, List.foldl_nil]
 have h1 : l.getD j 0 = l[j]'(by omega) := by rw [List.getD_eq_getElem?_getD, List.getElem?_eq_getElem (by omega)]; rfl
 rw [h1]
 congr 1
 simp only [List.getElem_zip, List.getElem_drop, <- hcd]
theorem inner_all (l : List Int) (j : Nat) (hj : j < l.length) : rows (l.drop j) = inner l j (l.length - (j + 1)) :: rows (l.drop (j + 1)) := by
 rw [rows_at l j hj]
 unfold inner
 rw [List.take_of_length_le (by simp [rows_length])]
 rw [List.getD_eq_getElem?_getD, List.getElem?_eq_getElem hj]; rfl
theorem zig : ∀ (l : List Int), ∀ r ∈ rows l, r <= l.length
 | [], r, h => by simp [rows] at h
 | x :: xs, r, h => by
  simp only [rows] at h
  have ih := zig xs
  have key : ∀ (ps : List (Int × Int)) (a : Int), a <= xs.length + 1 -> (∀ p ∈ ps, p.2 <= xs.length) -> ps.foldl (upd1 x) a <= xs.length + 1 := by
   intro ps
   induction ps with
   | nil => intro a ha _; simpa using ha
   | cons p ps ihp =>
    intro a ha hp
    simp only [List.foldl_cons]
    refine ihp _ ?_ (fun q hq => hp q (List.mem_cons_of_mem _ hq))
    have := hp p (by simp)
    unfold upd1; split <;> omega
  rcases List.mem_cons.1 h with rfl | h
  ·have := key (xs.zip (rows xs)) 1 (by omega) (fun p hp => ih _ (List.of_mem_zip hp).2)
   simpa using this
  ·have := ih r h
   simp; omega
theorem rows_get_le (l : List Int) (j : Nat) (cs : List Int) (hcl : cs.length = l.length) (n : Nat) (hcd : cs.drop n = rows (l.drop n)) (hn : n <= j) (hj : j < l.length) : 1 <= cs[j]'(by omega) /\ cs[j]'(by omega) <= l.length := by
 have hmem : cs[j]'(by omega) ∈ rows (l.drop n) := by
  rw [<- hcd]
  have : (cs.drop n)[j - n]'(by simp; omega) = cs[j]'(by omega) := by simp only [List.getElem_drop]; congr 1; omega
  rw [<- this]; exact List.getElem_mem _
 have h1 := rows_pos _ _ hmem
 have h2 := zig _ _ hmem
 simp only [List.length_drop] at h2
 omega
end Go.Proofs.YtfechgagcgbldaaDoor.Lis
namespace Go.Proofs.YtfechgagcgbldaaDoor.Lis
theorem inner_le (l : List Int) (j k : Nat) (hj : j < l.length) : inner l j k <= l.length := by
 have key : ∀ (n : Nat) (x : Int) (ps : List (Int × Int)) (a : Int), a <= n + 1 -> (∀ p ∈ ps, p.2 <= n) -> ps.foldl (upd1 x) a <= n + 1 := by
  intro n x ps
  induction ps with
  | nil => intro a ha _; simpa using ha
  | cons p ps ihp =>
   intro a ha hp
   simp only [List.foldl_cons]
   refine ihp _ ?_ (fun q hq => hp q (List.mem_cons_of_mem _ hq))
   have := hp p (by simp)
   unfold upd1; split <;> omega
 have := key (l.drop (j + 1)).length (l.getD j 0) (((l.drop (j + 1)).zip (rows (l.drop (j + 1)))).take k) 1 (by omega)
  (fun p hp => zig _ _ (List.of_mem_zip (List.mem_of_mem_take hp)).2)
 unfold inner
 simp only [List.length_drop] at this
 omega
end Go.Proofs.YtfechgagcgbldaaDoor.Lis
namespace Go.Proofs.YtfechgagcgbldaaDoor.Lis
theorem most_bd (l : List Int) : 0 <= most l /\ most l <= l.length := by
 unfold most
 rcases foldr_reach (rows l) with h | h
 ·rw [h]; omega
 ·have h1 := rows_pos l _ h
  have h2 := zig l _ h
  omega
theorem sel_len (l : List Int) : ∀ n, (sel l n).length <= n
 | 0 => by simp [sel]
 | n + 1 => by
  rw [sel_succ]
  have := sel_len l n
  unfold sel1; split
  ·simp; omega
  ·omega
end Go.Proofs.YtfechgagcgbldaaDoor.Lis
namespace Go.Proofs.YtfechgagcgbldaaDoor
section
open Abs
theorem Lis.sel_rise (l : List Int) : ∀ n : Nat, n <= l.length -> (Lis.sel l n).Pairwise fun i j => i < j /\ l.getD i 0 < l.getD j 0
 | 0, _ => by simp [Lis.sel]
 | n + 1, hn => by
  have ih := Lis.sel_rise l n (by omega)
  rw [Lis.sel_succ]
  unfold Lis.sel1
  split
  ·rename_i h
   rw [List.pairwise_append]
   refine ⟨ih, List.pairwise_singleton _ _, fun i hi j hj => ?_⟩
   rw [List.mem_singleton] at hj
   rw [hj]
   refine ⟨Lis.sel_lt l n i hi, ?_⟩
   rcases h.2.2 with h | h
   ·rw [h] at hi; cases hi
   ·-- the last of the row is the greatest
    have key : ∀ m : List Nat, m.Pairwise (fun i j => i < j /\ l.getD i 0 < l.getD j 0) -> i ∈ m -> i = m.getLastD 0 \/ l.getD i 0 < l.getD (m.getLastD 0) 0 := by
     intro m hp him
     obtain ⟨a, x, rfl⟩ : ∃ a x, m = a ++ [x] := ⟨m.dropLast, m.getLast (by intro e; rw [e] at him; cases him), (List.dropLast_concat_getLast _).symm⟩
     rw [List.pairwise_append] at hp
     have e : (a ++ [x]).getLastD 0 = x := by simp
     rw [e]
     rcases List.mem_append.1 him with h | h
     ·exact .inr (hp.2.2 i h x (by simp)).2
     ·rw [List.mem_singleton] at h; exact .inl h
    rcases key _ ih hi with e | e
    ·rw [e]; exact h
    ·omega
  ·exact ih
theorem Lis.lis_rise (l : List Int) : (Lis.lis l).Pairwise (fun i j => i < j /\ l.getD i 0 < l.getD j 0) /\ ∀ i ∈ Lis.lis l, i < l.length := by
 unfold Lis.lis
 split
 ·exact ⟨List.Pairwise.nil, fun i hi => by cases hi⟩
 ·exact ⟨Lis.sel_rise l _ (Nat.le_refl _), Lis.sel_lt l _⟩
namespace Tr
theorem zgw {α : Type} [DecidableEq α] {s l : List α} (h : s.Sublist l) (hn : l.Nodup) : l.filter (fun x => decide (x ∈ s)) = s := by
 induction h with
 | slnil => rfl
 | @cons s l a h ih =>
  rw [List.nodup_cons] at hn
  rw [List.filter_cons_of_neg (by simpa using fun e => hn.1 (h.subset e))]
  exact ih hn.2
 | @cons_cons s l a h ih =>
  rw [List.nodup_cons] at hn
  rw [List.filter_cons_of_pos (by simp)]
  congr 1
  rw [<- ih hn.2]
  refine List.filter_congr fun x hx => ?_
  have : x ≠ a := fun e => hn.1 (e ▸ hx)
  rw [ih hn.2]
  simp [this]
theorem zi5 {α : Type} (d : α) (l : List α) : ∀ (p : List Nat) (n : Nat), p.Pairwise (· < ·) -> (∀ i ∈ p, n <= i /\ i < l.length) -> (p.map fun i => l.getD i d).Sublist (l.drop n)
 | [], _, _, _ => List.nil_sublist _
 | i :: p, n, hp, h => by
  rw [List.pairwise_cons] at hp
  obtain ⟨h1, h2⟩ := h i (by simp)
  have ih := zi5 d l p (i + 1) hp.2 (fun j hj => ⟨hp.1 j hj, (h j (by simp [hj])).2⟩)
  have e : l.drop i = l[i] :: l.drop (i + 1) := List.drop_eq_getElem_cons h2
  have h3 : (l.drop i).Sublist (l.drop n) := by
   rw [show i = n + (i - n) by omega, <- List.drop_drop]; exact List.drop_sublist _ _
  refine List.Sublist.trans ?_ h3
  rw [e, List.map_cons, show l.getD i d = l[i] by simp [List.getD, h2]]
  exact ih.cons_cons _
theorem z67 : ∀ t : T, (idsT t).Nodup -> ∀ p ∈ nodesT t, ∀ y ∈ p.kids, (zb3 y.id t).1 = p.id := by
 refine z4f fun t ih hn p hp y hy => ?_
 obtain ⟨g1, g2, g3⟩ := zcb hn
 rw [z11, List.mem_cons] at hp
 rcases hp with rfl | hp
 ·obtain ⟨i, hi, rfl⟩ := List.getElem_of_mem hy
  rw [zk9 (id := p.kids[i].id) (t := p) (i := i) (fun e => g1 _ hy (e ▸ z3x _)) hi (fun j hj h => (z75 _ _).2 (g3 i j hi h (by omega) _ (z3x _))) rfl]
 ·obtain ⟨k, O, hpk⟩ := List.mem_flatMap.1 hp
  obtain ⟨i, hi, rfl⟩ := List.getElem_of_mem O
  have hyi : y.id ∈ idsT t.kids[i] := List.mem_map.2 ⟨y, z13 _ p hpk y (z0h hy (z09 y)), rfl⟩
  have hne : ¬ t.kids[i].id = y.id := by
   intro e
   have hn2 := g2 _ O
   have key : ∀ t : T, (idsT t).Nodup -> ∀ p ∈ nodesT t, ∀ y ∈ p.kids, t.id ≠ y.id := by
    intro t hn p hp y hy e
    rw [z24, List.nodup_cons] at hn
    refine hn.1 ?_
    rw [e]
    rw [z11, List.mem_cons] at hp
    rcases hp with rfl | hp
    ·exact List.mem_flatMap.2 ⟨y, hy, z3x y⟩
    ·obtain ⟨k, O, hpk⟩ := List.mem_flatMap.1 hp
     refine List.mem_flatMap.2 ⟨k, O, List.mem_map.2 ⟨y, ?_, rfl⟩⟩
     exact z13 k p hpk y (z0h hy (z09 y))
   exact key _ hn2 p hpk y hy e
  rw [zu5 (id := y.id) (t := t) (i := i) (fun e => g1 _ O (e ▸ hyi)) hi (fun j hj h => (z75 _ _).2 (g3 i j hi h (by omega) _ hyi)) hne (zb9.2 hyi)]
  exact ih _ O (g2 _ O) p hpk y hy
theorem z9e {t : T} (hn : (idsT t).Nodup) {q k : T} (hq : q ∈ nodesT t) (O : k ∈ q.kids) : ¬ t.id = k.id := by
 intro e
 rw [z24, List.nodup_cons] at hn
 refine hn.1 ?_
 rw [e]
 rw [z11, List.mem_cons] at hq
 rcases hq with rfl | hq
 ·exact List.mem_flatMap.2 ⟨k, O, z3x k⟩
 ·obtain ⟨z, hz, hpk⟩ := List.mem_flatMap.1 hq
  exact List.mem_flatMap.2 ⟨z, hz, List.mem_map.2 ⟨k, z13 z q hpk k (z0h O (z09 k)), rfl⟩⟩
theorem zq2 {t x : T} (hn : (idsT t).Nodup) (hx : x ∈ nodesT t) : (idsT x).Nodup := by
 obtain ⟨C, h1, _⟩ := focus x.id t (List.mem_map.2 ⟨x, hx, rfl⟩)
 rw [z0x hn hx rfl] at h1
 rw [h1] at hn
 exact zc6 hn
theorem z3z {t x : T} (hn : (idsT t).Nodup) (hx : x ∈ nodesT t) : (x.kids.map T.id).Nodup := by
 have h := zq2 hn hx
 rw [z24, List.nodup_cons] at h
 have h2 := List.pairwise_flatMap.1 h.2
 unfold List.Nodup
 rw [List.pairwise_map]
 exact h2.2.imp fun {a b} h e => h _ (z3x a) _ (z3x b) e
theorem kid_par {t q : T} (hn : (idsT t).Nodup) (hq : q ∈ nodesT t) (i : Nat) (hi : i < q.kids.length) : zb3 q.kids[i].id t = (q.id, (i : Int), true) := by
 have O : q.kids[i] ∈ q.kids := List.getElem_mem hi
 have hkn : q.kids[i] ∈ nodesT t := z13 t q hq _ (z0h O (z09 _))
 obtain ⟨x, q', j, hj, h1, h2, h3, h4, h5, _, _, _, hq'⟩ := zf5 hn (id := q.kids[i].id) (List.mem_map.2 ⟨_, hkn, rfl⟩) (z9e hn hq O)
 have e1 := z67 t hn q hq _ O
 rw [h3] at e1
 simp only at e1
 have e2 := z0x hn hq e1.symm
 rw [h4] at e2
 simp only [Prod.mk.injEq, and_true] at e2
 subst e2
 rw [z0x hn hkn rfl] at h1
 simp only [Prod.mk.injEq, and_true] at h1
 rw [<- h1] at h5
 have : j = i := (List.getElem_inj (h₀ := by simpa using hj) (h₁ := by simpa using hi) (z3z hn hq)).1 (by simp [h5])
 rw [h3, this]
theorem zi6 {t : T} (hn : (idsT t).Nodup) {id : Idv} (hm : id ∈ idsT t) (h0 : ¬ t.id = id) : ∃ q ∈ nodesT t, ∃ k ∈ q.kids, k.id = id /\ (zb3 id t).1 = q.id := by
 obtain ⟨x, q, i, hi, h1, h2, h3, h4, h5, _, _, _, hq⟩ := zf5 hn hm h0
 exact ⟨q, hq, x, by rw [<- h5]; exact List.getElem_mem hi, h2, by rw [h3]⟩
def z58 (A : T) (u k : T) : Bool := z23 u.id A && ((zb3 k.id A).2.2 && decide ((zb3 k.id A).1 = u.id))
def z5c (A : T) (u : T) : List T := u.kids.filter (z58 A u)
def zcc (A : T) (u : T) : List Int := (z5c A u).map fun k => (zb3 k.id A).2.1
def z33 (A : T) (u : T) : List Idv := (Lis.lis (zcc A u)).map fun n => ((z5c A u).map T.id).getD n Idv.zero
def edT (t : T) : List (T × T) := zeb (fun t l => (t.kids.zip l).flatMap fun p => (t, p.1) :: p.2) t
theorem znx (t : T) : edT t = t.kids.flatMap fun k => (t, k) :: edT k := by
 unfold edT
 rw [z3b]
 generalize zeb (fun (t : T) (l : List (List (T × T))) => (t.kids.zip l).flatMap fun p => (t, p.1) :: p.2) = f
 induction t.kids with
 | nil => rfl
 | cons k l ih => simp only [List.map_cons, List.zip_cons_cons, List.flatMap_cons, ih]
def zs8 (A B : T) : List Idv := ((edT B).filter fun e => z23 e.2.id A && !decide (e.2.id ∈ z33 A e.1)).map fun e => e.2.id
def mvB (A B : T) (i : Idv) : Bool := decide (i ∈ zs8 A B)
theorem ed_mem : ∀ (t : T) (e : T × T), e ∈ edT t ↔ e.1 ∈ nodesT t /\ e.2 ∈ e.1.kids := by
 refine z4f fun t ih e => ?_
 rw [znx, List.mem_flatMap, z11, List.mem_cons, List.mem_flatMap]
 constructor
 ·rintro ⟨k, O, he⟩
  rcases List.mem_cons.1 he with rfl | he
  ·exact ⟨.inl rfl, O⟩
  ·obtain ⟨h1, h2⟩ := (ih k O e).1 he
   exact ⟨.inr ⟨k, O, h1⟩, h2⟩
 ·rintro ⟨h1 | ⟨k, O, h1⟩, h2⟩
  ·exact ⟨e.2, h1 ▸ h2, by rw [<- h1]; simp⟩
  ·exact ⟨k, O, List.mem_cons_of_mem _ ((ih k O e).2 ⟨h1, h2⟩)⟩
theorem ed_ids : ∀ t : T, idsT t = t.id :: (edT t).map fun e => e.2.id := by
 refine z4f fun t ih => ?_
 rw [z24, znx, List.map_flatMap]
 congr 1
 rw [List.flatMap_def, List.flatMap_def]
 refine congrArg _ (List.map_congr_left fun k O => ?_)
 rw [ih k O, List.map_cons]
theorem zts {t q q' k k' : T} (hn : (idsT t).Nodup) (hq : q ∈ nodesT t) (O : k ∈ q.kids) (hq' : q' ∈ nodesT t) (hk' : k' ∈ q'.kids) (h : k.id = k'.id) : q = q' /\ k = k' := by
 have e1 := z67 t hn q hq k O
 have e2 := z67 t hn q' hq' k' hk'
 rw [h, e2] at e1
 have f1 := z0x hn hq rfl
 have f2 := z0x hn hq' e1
 rw [f1] at f2
 simp only [Prod.mk.injEq, and_true] at f2
 have g1 := z0x hn (z13 t q hq k (z0h O (z09 k))) h
 have g2 := z0x hn (z13 t q' hq' k' (z0h hk' (z09 k'))) rfl
 rw [g1] at g2
 simp only [Prod.mk.injEq, and_true] at g2
 exact ⟨f2, g2⟩
section
variable {A B : T}
theorem z8r {u : T} {i : Idv} (h : i ∈ z33 A u) : ∃ k ∈ u.kids, k.id = i /\ z58 A u k = true := by
 obtain ⟨n, hn, rfl⟩ := List.mem_map.1 h
 have hlt := (Lis.lis_rise (zcc A u)).2 n hn
 have hl : n < (z5c A u).length := by simpa [zcc] using hlt
 obtain ⟨h1, h2⟩ := List.mem_filter.1 (List.getElem_mem hl)
 exact ⟨_, h1, by simp [List.getD, hl], h2⟩
theorem zi7 (u : T) : (z33 A u).Sublist (u.kids.map T.id) := by
 have h := zi5 Idv.zero ((z5c A u).map T.id) (Lis.lis (zcc A u)) 0 ((Lis.lis_rise _).1.imp fun h => h.1) (fun i hi => ⟨Nat.zero_le _, by have := (Lis.lis_rise (zcc A u)).2 i hi; simpa [zcc] using this⟩)
 rw [List.drop_zero] at h
 refine h.trans ?_
 exact (List.filter_sublist).map _
theorem zjx (hn : (idsT A).Nodup) {x u : T} (hx : x ∈ nodesT A) (hid : x.id = u.id) : (z33 A u).Sublist (x.kids.map T.id) := by
 have key : ∀ n, n < (z5c A u).length -> ∃ i : Nat, (zcc A u).getD n 0 = i /\ i < x.kids.length /\ (x.kids.map T.id).getD i Idv.zero = ((z5c A u).map T.id).getD n Idv.zero := by
  intro n hl
  obtain ⟨h1, h2⟩ := List.mem_filter.1 (List.getElem_mem hl)
  simp only [z58, Bool.and_eq_true, decide_eq_true_eq] at h2
  obtain ⟨_, h3, h4⟩ := h2
  have hm : (z5c A u)[n].id ∈ idsT A := by
   by_cases h : (z5c A u)[n].id ∈ idsT A
   ·exact h
   ·rw [<- z75] at h
    unfold zb3 at h3
    simp [h] at h3
  have h0 : ¬ A.id = (z5c A u)[n].id := by
   intro e
   have h5 := z2y e
   unfold zb3 at h3
   simp [h5] at h3
  obtain ⟨z, q, i, hi, g1, g2, g3, g4, g5, _, _, _, hq⟩ := zf5 hn hm h0
  have : q = x := by
   have e2 : q.id = x.id := by rw [hid, <- h4, g3]
   have f1 := z0x hn hq rfl
   rw [e2, z0x hn hx rfl] at f1
   simp only [Prod.mk.injEq, and_true] at f1
   exact f1.symm
  subst this
  refine ⟨i, ?_, hi, ?_⟩
  ·simp [List.getD, zcc, hl, g3]
  ·simp [List.getD, hi, hl, g5, g2]
 have hr := Lis.lis_rise (zcc A u)
 have hlt : ∀ n ∈ Lis.lis (zcc A u), n < (z5c A u).length := fun n h => by have := hr.2 n h; simpa [zcc] using this
 have e : z33 A u = ((Lis.lis (zcc A u)).map fun n => ((zcc A u).getD n 0).toNat).map fun i => (x.kids.map T.id).getD i Idv.zero := by
  unfold z33
  rw [List.map_map]
  refine List.map_congr_left fun n hn => ?_
  obtain ⟨i, h1, h2, h3⟩ := key n (hlt n hn)
  simp only [Function.comp_apply, h1, Int.toNat_natCast, h3]
 rw [e]
 have h := zi5 Idv.zero (x.kids.map T.id) ((Lis.lis (zcc A u)).map fun n => ((zcc A u).getD n 0).toNat) 0 (by
  rw [List.pairwise_map]
  refine List.Pairwise.imp_of_mem ?_ hr.1
  intro a b ha hb h
  obtain ⟨i, h1, _⟩ := key a (hlt a ha)
  obtain ⟨j, h2, _⟩ := key b (hlt b hb)
  rw [h1, h2] at h ⊢
  have := h.2
  simp only [Int.toNat_natCast]
  omega) (fun i hi => by
  obtain ⟨n, hn, rfl⟩ := List.mem_map.1 hi
  obtain ⟨j, h1, h2, _⟩ := key n (hlt n hn)
  rw [h1]
  exact ⟨Nat.zero_le _, by simpa using h2⟩)
 rwa [List.drop_zero] at h
theorem zgx {i : Idv} : mvB A B i = true ↔ ∃ q ∈ nodesT B, ∃ k ∈ q.kids, k.id = i /\ i ∈ idsT A /\ i ∉ z33 A q := by
 unfold mvB zs8
 rw [decide_eq_true_eq, List.mem_map]
 constructor
 ·rintro ⟨e, he, rfl⟩
  obtain ⟨h1, h2⟩ := List.mem_filter.1 he
  obtain ⟨h3, h4⟩ := (ed_mem B e).1 h1
  simp only [Bool.and_eq_true, Bool.not_eq_true', decide_eq_false_iff_not, z15, decide_eq_true_eq] at h2
  exact ⟨e.1, h3, e.2, h4, rfl, h2.1, h2.2⟩
 ·rintro ⟨q, hq, k, O, rfl, h1, h2⟩
  refine ⟨(q, k), List.mem_filter.2 ⟨(ed_mem B _).2 ⟨hq, O⟩, ?_⟩, rfl⟩
  simp [z15, h1, h2]
theorem zy2 (na : (idsT A).Nodup) (nb : (idsT B).Nodup) (hr : A.id = B.id)
  (O : ∀ i x y, findR i A = (x, true) -> findR i B = (y, true) -> x.kind = y.kind)
  (hl : ∀ i x y, findR i A = (x, true) -> findR i B = (y, true) -> ¬ x.label = y.label -> ¬ x.label = ByteArray.empty) : Books A B (mvB A B) where
 na := na
 nb := nb
 root := hr
 rootM := by
  cases h : mvB A B B.id with
  | false => rfl
  | true =>
   obtain ⟨q, hq, k, O, e, _⟩ := zgx.1 h
   exact absurd e.symm (z9e nb hq O)
 kept := fun i h => by
  obtain ⟨q, hq, k, O, rfl, h1, _⟩ := zgx.1 h
  exact ⟨h1, List.mem_map.2 ⟨k, z13 B q hq k (z0h O (z09 k)), rfl⟩⟩
 kind := O
 lab := hl
 line := fun i x y hx hy => by
  have hxi : x.id = i := by have := z8e (id := i) (t := A) (by rw [hx]); rwa [hx] at this
  have hyi : y.id = i := by have := z8e (id := i) (t := B) (by rw [hy]); rwa [hy] at this
  have hxn : x ∈ nodesT A := by have := z30 (id := i) (u := A) (by rw [hx]); rwa [hx] at this
  have hyn : y ∈ nodesT B := by have := z30 (id := i) (u := B) (by rw [hy]); rwa [hy] at this
  have s1 := zgw (zi7 (A := A) y) (z3z nb hyn)
  have s2 := zgw (zjx na hxn (hxi.trans hyi.symm)) (z3z na hxn)
  -- who stays under y
  have hstay : ∀ k : Idv, stayB A B (mvB A B) k = true -> ∀ q ∈ nodesT B, (∃ z ∈ q.kids, z.id = k) -> k ∈ z33 A q := by
   intro k hs q hq ⟨z, hz, hzk⟩
   simp only [stayB, z15, Bool.and_eq_true, decide_eq_true_eq, Bool.not_eq_true'] at hs
   obtain ⟨h1, h2, h3⟩ := hs
   by_cases hm : k ∈ z33 A q
   ·exact hm
   ·have := zgx.2 ⟨q, hq, z, hz, hzk, h1, hm⟩
    rw [h3] at this; cases this
  have hmem : ∀ k, k ∈ z33 A y -> stayB A B (mvB A B) k = true := by
   intro k hks
   obtain ⟨z, hz, hzk, hu⟩ := z8r hks
   have hkA : k ∈ idsT A := (zjx na hxn (hxi.trans hyi.symm)).subset hks |> fun h => by
    obtain ⟨w, hw, rfl⟩ := List.mem_map.1 h
    exact List.mem_map.2 ⟨w, z13 A x hxn w (z0h hw (z09 w)), rfl⟩
   have hkB : k ∈ idsT B := List.mem_map.2 ⟨z, z13 B y hyn z (z0h hz (z09 z)), hzk⟩
   have hnm : mvB A B k = false := by
    cases h : mvB A B k with
    | false => rfl
    | true =>
     obtain ⟨q, hq, z', hz', e, _, hns⟩ := zgx.1 h
     obtain ⟨e2, _⟩ := zts nb hq hz' hyn hz (e.trans hzk.symm)
     subst e2
     exact absurd hks hns
   simp [stayB, z15, hkA, hkB, hnm]
  have g1 : (y.kids.filter fun k => stayB A B (mvB A B) k.id).map T.id = z33 A y := by
   rw [<- s1, List.filter_map]
   refine congrArg _ (List.filter_congr fun k O => ?_)
   rw [Bool.eq_iff_iff]
   constructor
   ·intro h; simp only [Function.comp_apply, decide_eq_true_eq]; exact hstay _ h y hyn ⟨k, O, rfl⟩
   ·intro h; simp only [Function.comp_apply, decide_eq_true_eq] at h; exact hmem _ h
  have g2 : (x.kids.filter fun k => stayB A B (mvB A B) k.id).map T.id = z33 A y := by
   rw [<- s2, List.filter_map]
   refine congrArg _ (List.filter_congr fun k O => ?_)
   rw [Bool.eq_iff_iff]
   constructor
   ·intro h
    simp only [Function.comp_apply, decide_eq_true_eq]
    have h' := h
    simp only [stayB, z15, Bool.and_eq_true, decide_eq_true_eq, Bool.not_eq_true'] at h'
    obtain ⟨h1, h2, h3⟩ := h'
    have h0 : ¬ B.id = k.id := by rw [<- hr]; exact z9e na hxn O
    obtain ⟨q, hq, z, hz, hzk, _⟩ := zi6 nb h2 h0
    have hs := hstay _ h q hq ⟨z, hz, hzk⟩
    obtain ⟨z', hz', hzk', hu⟩ := z8r hs
    simp only [z58, Bool.and_eq_true, decide_eq_true_eq] at hu
    have e1 := z67 A na x hxn k O
    rw [<- hzk', hu.2.2] at e1
    have : q = y := by
     have f1 := z0x nb hq rfl
     rw [e1, hxi, hy] at f1
     simp only [Prod.mk.injEq, and_true] at f1
     exact f1.symm
    subst this
    exact hs
   ·intro h; simp only [Function.comp_apply, decide_eq_true_eq] at h; exact hmem _ h
  rw [g1, g2]
 offA := fun x hx hxB k O hkB => by
  have h0 : ¬ B.id = k.id := by rw [<- hr]; exact z9e na hx O
  obtain ⟨q, hq, z, hz, hzk, _⟩ := zi6 nb hkB h0
  have hkA : k.id ∈ idsT A := List.mem_map.2 ⟨k, z13 A x hx k (z0h O (z09 k)), rfl⟩
  refine zgx.2 ⟨q, hq, z, hz, hzk, hkA, fun hs => ?_⟩
  obtain ⟨z', hz', hzk', hu⟩ := z8r hs
  simp only [z58, Bool.and_eq_true, decide_eq_true_eq] at hu
  have e1 := z67 A na x hx k O
  rw [<- hzk', hu.2.2] at e1
  exact hxB (e1 ▸ List.mem_map.2 ⟨q, hq, rfl⟩)
 offB := fun y hy hyA k O hkA => by
  refine zgx.2 ⟨y, hy, k, O, rfl, hkA, fun hs => ?_⟩
  obtain ⟨z', hz', hzk', hu⟩ := z8r hs
  simp only [z58, Bool.and_eq_true, z15, decide_eq_true_eq] at hu
  exact hyA hu.1
end
end Tr
end
section
open Abs
namespace Tr
section
variable {A B : T} {mv : Idv -> Bool}
theorem zrz (na : (idsT A).Nodup) (nb : (idsT B).Nodup) : ((idsT B).filter fun i => z23 i A).Perm ((idsT A).filter fun i => z23 i B) := by
 rw [List.perm_ext_iff_of_nodup (nb.filter _) (na.filter _)]
 intro i
 simp only [List.mem_filter, z15, decide_eq_true_eq]
 exact And.comm
theorem zwb {i : Idv} {t : T} (h : z23 i t = false) : findR i t = (T.zero, false) := by
 unfold z23 at h
 exact ze6 (zk8.1 h)
theorem zs0 (na : (idsT A).Nodup) (nb : (idsT B).Nodup) (g : Idv -> Nat) : ((nodesT B).map fun y => if z23 y.id A = true then g y.id else 0).sum = ((nodesT A).map fun x => if z23 x.id B = true then g x.id else 0).sum := by
 have h1 : ((nodesT B).map fun y => if z23 y.id A = true then g y.id else 0) = (idsT B).map fun i => if z23 i A = true then g i else 0 := by unfold idsT; rw [List.map_map]; rfl
 have h2 : ((nodesT A).map fun x => if z23 x.id B = true then g x.id else 0) = (idsT A).map fun i => if z23 i B = true then g i else 0 := by unfold idsT; rw [List.map_map]; rfl
 rw [h1, h2, <- z7g, <- z7g]
 exact zns ((zrz na nb).map g)
theorem zou (na : (idsT A).Nodup) (nb : (idsT B).Nodup) (g : T -> Nat) (h0 : g T.zero = 0) : ((nodesT B).map fun y => g (findR y.id A).1).sum = ((nodesT A).map fun x => if z23 x.id B = true then g x else 0).sum := by
 have h1 : ((nodesT B).map fun y => g (findR y.id A).1).sum = ((nodesT B).map fun y => if z23 y.id A = true then g (findR y.id A).1 else 0).sum := z2w fun y _ => by
  by_cases h : z23 y.id A = true
  ·rw [if_pos h]
  ·rw [if_neg h, zwb (by simpa using h), h0]
 rw [h1, zs0 na nb (fun i => g (findR i A).1)]
 exact z2w fun x hx => by rw [z0x na hx rfl]
theorem zov (hb : Books A B mv) {w : TT -> Nat} (hw : zjt w) : wtT w (z12 A B mv B) = ((nodesT B).map fun y => w (z57 A mv y [])).sum + ((nodesT A).map (goD w B mv)).sum := by
 rw [zte hw, z8p]
 congr 1
 rw [zou hb.na hb.nb (goK w B (stayB A B mv)) rfl]
 have h := zxu hw (A := A) (B := B) (mv := mv) A (fun x hx k O => by
  rw [z15, decide_eq_true (id_in (z13 A x hx k (z0h O (z09 k))))]) (fun x hx hxB k O hkB => by
  rw [z15, decide_eq_false_iff_not] at hxB
  rw [z15, decide_eq_true_eq] at hkB
  exact hb.offA x hx hxB k O hkB)
 rw [if_pos (by rw [z15, decide_eq_true_eq, hb.root, z24]; simp)] at h
 rw [<- h, Nat.add_zero]
def wS (s : Int) (t : TT) : Nat := zlp s t.head + zlp s t.words
theorem wS_no (s : Int) : zjt (wS s) := fun _ _ _ _ _ _ _ _ _ => rfl
def zwc (x : T) : Nat := x.head.length + x.words.length
def prN (v u : T) : Nat := (Lcs.pairs (txt v.head) (txt u.head)).length + (Lcs.pairs (txt v.words) (txt u.words)).length
def zld (t : T) : Nat := ((nodesT t).map zwc).sum
theorem zow (y : T) : wS 1 (z57 A mv y []) + prN (findR y.id A).1 y = zwc y /\ wS 2 (z57 A mv y []) + prN (findR y.id A).1 y = zwc (findR y.id A).1 := by
 have h1 := zll (txt (findR y.id A).1.head) (txt y.head)
 have h2 := zll (txt (findR y.id A).1.words) (txt y.words)
 unfold wS prN zwc z57
 simp only [TT.head, TT.words]
 simp only [txt, List.length_map] at h1 h2 ⊢
 omega
theorem zwd (x : T) : wS 1 (zag x []) = 0 /\ wS 2 (zag x []) = zwc x := by
 unfold wS zag zwc
 simp only [TT.head, TT.words]
 rw [z5v (by decide), z5v (by decide), z7v, z7v]
 simp [txt]
theorem wS_ph (s : Int) (i : Idv) : wS s (phT i) = 0 := rfl
theorem zee {α : Type} : ∀ l : List α, (l.map fun _ => 0).sum = 0
 | [] => rfl
 | _ :: l => by simp [zee l]
def zs1 (A B : T) : Nat := ((nodesT B).map fun y => prN (findR y.id A).1 y).sum
theorem counts (hb : Books A B mv) : wtT (wS 1) (z12 A B mv B) + zs1 A B = zld B /\ wtT (wS 2) (z12 A B mv B) + zs1 A B = zld A := by
 rw [zov hb (wS_no 1), zov hb (wS_no 2)]
 have g1 : ((nodesT A).map (goD (wS 1) B mv)).sum = 0 := by
  refine (z2w (g := fun _ => 0) fun x _ => ?_).trans (zee _)
  unfold goD
  rw [(zwd x).1]
  have : (x.kids.map fun k => if z23 k.id B = true /\ mv k.id = true then wS 1 (phT k.id) else 0).sum = 0 := by
   refine (z2w (g := fun _ => 0) fun k _ => ?_).trans (zee _)
   simp [wS_ph]
  rw [this]; simp
 have g2 : ((nodesT A).map (goD (wS 2) B mv)).sum = ((nodesT A).map fun x => if z23 x.id B = true then 0 else zwc x).sum := by
  refine z2w fun x _ => ?_
  unfold goD
  rw [(zwd x).2]
  have : (x.kids.map fun k => if z23 k.id B = true /\ mv k.id = true then wS 2 (phT k.id) else 0).sum = 0 := by
   refine (z2w (g := fun _ => 0) fun k _ => ?_).trans (zee _)
   simp [wS_ph]
  rw [this]; simp
 have f1 : ((nodesT B).map fun y => wS 1 (z57 A mv y [])).sum + zs1 A B = zld B := by
  unfold zs1 zld
  rw [<- z8p]
  exact z2w fun y _ => (zow y).1
 have f2 : ((nodesT B).map fun y => wS 2 (z57 A mv y [])).sum + zs1 A B = ((nodesT A).map fun x => if z23 x.id B = true then zwc x else 0).sum := by
  rw [<- zou hb.na hb.nb zwc rfl]
  unfold zs1
  rw [<- z8p]
  exact z2w fun y _ => (zow y).2
 have f3 : ((nodesT A).map fun x => if z23 x.id B = true then zwc x else 0).sum + ((nodesT A).map fun x => if z23 x.id B = true then 0 else zwc x).sum = zld A := by
  rw [<- z8p]
  refine z2w fun x _ => ?_
  split <;> simp
 omega
end
end Tr
end
section
def Lis.Good (l o : List Int) (k : Nat) : Prop := ∀ j, j < k -> 0 <= o.getD j 0 /\ o.getD j 0 < l.length /\ (0 < j -> o.getD (j - 1) 0 < o.getD j 0 /\ l.getD (o.getD (j - 1) 0).toNat 0 < l.getD (o.getD j 0).toNat 0)
theorem z9a (l : List Int) (i : Nat) (h : i < l.length) : l.getD i 0 = l[i] := by
 rw [List.getD_eq_getElem?_getD, List.getElem?_eq_getElem h]; rfl
theorem Lis.row_ge (l : List Int) (i : Nat) (h : i < l.length) : 1 <= (Lis.rows l).getD i 0 /\ (Lis.rows l).getD i 0 <= Lis.most l := by
 have hl := Lis.rows_length l
 rw [z9a _ i (by omega)]
 exact ⟨Lis.rows_pos l _ (List.getElem_mem _), Lis.foldr_ge _ _ (List.getElem_mem _)⟩
theorem Lis.good_row (l o : List Int) (h : Lis.Good l o o.length) : ∀ d j, j + d + 1 = o.length -> ((d + 1 : Nat) : Int) <= (Lis.rows l).getD (o.getD j 0).toNat 0
 | 0, j, hj => by
  have h1 := h j (by omega)
  have := (Lis.row_ge l (o.getD j 0).toNat (by omega)).1
  omega
 | d + 1, j, hj => by
  have ih := Lis.good_row l o h d (j + 1) (by omega)
  have h1 := h j (by omega)
  have h2 := h (j + 1) (by omega)
  have h3 := h2.2.2 (by omega)
  simp only [Nat.add_sub_cancel] at h3
  have h4 := Lis.rows_step l (o.getD j 0).toNat (o.getD (j + 1) 0).toNat (by omega) (by omega) (by
   have q := h3.2
   rw [z9a l _ (by omega), z9a l _ (by omega)] at q
   exact q)
  omega
theorem Lis.good_most (l o : List Int) (h : Lis.Good l o o.length) : (o.length : Int) <= Lis.most l := by
 cases ho : o.length with
 | zero => have := (Lis.most_bd l).1; simpa using this
 | succ n =>
  have h1 := Lis.good_row l o h n 0 (by omega)
  have h2 := h 0 (by omega)
  have h3 := (Lis.row_ge l (o.getD 0 0).toNat (by omega)).2
  omega
theorem Lis.sel_inv (l : List Int) : ∀ n, n <= l.length -> ((Lis.sel l n).length : Int) = Lis.most l \/
  (((Lis.sel l n).length : Int) < Lis.most l /\ ∃ j, n <= j /\ j < l.length /\ (Lis.rows l).getD j 0 = Lis.most l - (Lis.sel l n).length /\ (Lis.sel l n = [] \/ l.getD ((Lis.sel l n).getLastD 0) 0 < l.getD j 0))
 | 0, _ => by
  have hb := Lis.most_bd l
  rcases Lis.foldr_reach (Lis.rows l) with h | h
  ·left; show (0 : Int) = _; unfold Lis.most; exact h.symm
  ·have hp := Lis.rows_pos l _ h
   right
   refine ⟨by show (0 : Int) < _; unfold Lis.most; omega, ?_⟩
   obtain ⟨j, hj, he⟩ := List.getElem_of_mem h
   have hl := Lis.rows_length l
   refine ⟨j, Nat.zero_le _, by omega, ?_, .inl rfl⟩
   rw [z9a _ j hj, he]
   show _ = Lis.most l - (0 : Int)
   unfold Lis.most; omega
 | n + 1, hn => by
  have ih := Lis.sel_inv l n (by omega)
  have hs := Lis.sel_succ l n
  rcases ih with ih | ⟨hlt, j, hj1, hj2, hj3, hj4⟩
  ·left
   rw [hs]; unfold Lis.sel1; rw [if_neg (by omega)]; exact ih
  ·by_cases hc : ((Lis.sel l n).length : Int) < Lis.most l /\ (Lis.rows l).getD n 0 = Lis.most l - (Lis.sel l n).length /\ (Lis.sel l n = [] \/ l.getD ((Lis.sel l n).getLastD 0) 0 < l.getD n 0)
   ·have hs' : Lis.sel l (n + 1) = Lis.sel l n ++ [n] := by rw [hs]; unfold Lis.sel1; rw [if_pos hc]
    rw [hs']
    have hlen : ((Lis.sel l n ++ [n]).length : Int) = (Lis.sel l n).length + 1 := by simp
    have hlast : (Lis.sel l n ++ [n]).getLastD 0 = n := by simp
    rw [hlen, hlast]
    by_cases he : ((Lis.sel l n).length : Int) + 1 = Lis.most l
    ·exact .inl he
    ·right
     refine ⟨by omega, ?_⟩
     obtain ⟨j', q1, q2, q3, q4⟩ := Lis.rows_next l n (by omega) (by omega)
     refine ⟨j', by omega, q2, by omega, .inr ?_⟩
     rw [z9a l n (by omega), z9a l j' q2]; exact q3
   ·have hs' : Lis.sel l (n + 1) = Lis.sel l n := by rw [hs]; unfold Lis.sel1; rw [if_neg hc]
    rw [hs']
    right
    refine ⟨hlt, j, ?_, hj2, hj3, hj4⟩
    rcases Nat.lt_or_ge n j with h | h
    ·omega
    ·have : j = n := by omega
     subst this
     exact (hc ⟨hlt, hj3, hj4⟩).elim
theorem Lis.sel_all (l : List Int) : ((Lis.sel l l.length).length : Int) = Lis.most l := by
 rcases Lis.sel_inv l l.length (Nat.le_refl _) with h | ⟨_, j, h1, h2, _⟩
 ·exact h
 ·omega
theorem Lis.longest (l o : List Int) (hl : l.length <= 256) (h : Lis.Good l o o.length) : o.length <= (Lis.lis l).length := by
 have h1 := Lis.good_most l o h
 have h2 := Lis.sel_all l
 unfold Lis.lis
 rw [if_neg (by omega)]
 omega
end
section
open Abs
namespace Tr
theorem zkw : ∀ t : T, nodesT (z45 t) = (nodesT t).map z45 := by
 refine z4f fun t ih => ?_
 rw [z11, z11, List.map_cons, List.map_flatMap]
 congr 1
 rw [z3n]
 show (t.kids.map z45).flatMap nodesT = _
 rw [List.flatMap_map, List.flatMap_def, List.flatMap_def]
 exact congrArg _ (List.map_congr_left ih)
theorem zva (t : T) : (z45 t).id = t.id := by rw [z3n]; rfl
theorem ziw (t : T) : (z45 t).kids = t.kids.map z45 := by rw [z3n]; rfl
theorem zmz (t : T) : idsT (z45 t) = idsT t := by
 unfold idsT
 rw [zkw, List.map_map]
 exact List.map_congr_left fun x _ => zva x
end Tr
namespace Tr
def z3e (u : T) : Bool := decide (u.kind = 0) && (z4v u && (decide (u.kids.length = 0) || !decide ((u.kids.headD u).id = u.id)))
def z3k (A B : T) : Bool := (nodesT A).all fun x => !z23 x.id B || decide ((findR x.id B).1.kind = x.kind)
def z8n (A B : T) : Bool := z3e A && (z3e B && z3k A B)
theorem z22 (u : T) : z3e u = true ↔ u.kind = 0 /\ z4v u = true /\ (idsT u).Nodup := by
 unfold z3e
 simp only [Bool.and_eq_true, decide_eq_true_eq, Bool.or_eq_true, Bool.not_eq_true', decide_eq_false_iff_not]
 constructor
 ·rintro ⟨h1, h2, h3⟩
  refine ⟨h1, h2, ?_⟩
  have h4 : zod u = true := by unfold z4v at h2; simp only [Bool.and_eq_true] at h2; exact h2.2.2.2
  unfold zod at h4
  simp only [Bool.or_eq_true, Bool.and_eq_true, decide_eq_true_eq, List.all_eq_true] at h4
  rcases h4 with h4 | h4
  ·cases O : u.kids with
   | nil => rw [z24, O]; simp
   | cons k l =>
    rcases h3 with h3 | h3
    ·rw [O] at h3; simp at h3
    ·rw [O] at h3
     refine absurd ?_ h3
     simp only [List.headD_cons]
     rw [h4 u.id (z3x u), h4 k.id (by rw [z24, O]; simp [z3x])]
  ·exact h4.2
 ·rintro ⟨h1, h2, h3⟩
  refine ⟨h1, h2, ?_⟩
  cases O : u.kids with
  | nil => exact .inl rfl
  | cons k l =>
   refine .inr fun e => ?_
   simp only [List.headD_cons] at e
   rw [z24, O, List.nodup_cons] at h3
   exact h3.1 (by rw [<- e]; simp [z3x])
theorem z9b {u : T} (h : z3e u = true) : u.id = Idv.zero := by
 obtain ⟨h1, h2, h3⟩ := (z22 u).1 h
 have h4 : zod u = true := by unfold z4v at h2; simp only [Bool.and_eq_true] at h2; exact h2.2.2.2
 unfold zod at h4
 simp only [Bool.or_eq_true, Bool.and_eq_true, decide_eq_true_eq, List.all_eq_true] at h4
 rcases h4 with h4 | h4
 ·exact h4 u.id (z3x u)
 ·exact h4.1.2 h1
theorem zpo : ∀ t : T, z59 t = true -> ∀ x ∈ nodesT t, z59 x = true := by
 refine z4f fun t ih h x hx => ?_
 rw [z11, List.mem_cons, List.mem_flatMap] at hx
 rcases hx with rfl | ⟨k, O, hx⟩
 ·exact h
 ·rw [z7k] at h
  simp only [Bool.and_eq_true, List.all_eq_true] at h
  exact ih k O (h.2.2.1 k O) x hx
theorem zev {u : T} (h : z3e u = true) {x : T} (hx : x ∈ nodesT u) : x.kids.length <= 64 /\ (x.head.length <= 256 /\ x.words.length <= 256) /\ (x.kind = 0 -> x.label = ByteArray.empty) /\ (¬ x.kind = 0 -> z4a x.label = true) /\ ∀ k ∈ x.kids, ¬ k.kind = 0 := by
 obtain ⟨h1, h2, h3⟩ := (z22 u).1 h
 have hr : z59 u = true := by unfold z4v at h2; simp only [Bool.and_eq_true] at h2; exact h2.1
 have h4 := zpo u hr x hx
 rw [z7k] at h4
 simp only [Bool.and_eq_true, List.all_eq_true] at h4
 obtain ⟨ha, hn, _⟩ := h4
 unfold z8y zln at ha
 simp only [Bool.and_eq_true, decide_eq_true_eq] at ha
 obtain ⟨_, a2, a3, a4, a5⟩ := ha
 refine ⟨a2, ⟨a3.1, a4.1⟩, fun e => ?_, fun e => ?_, fun k O e => ?_⟩
 ·rw [if_pos e] at a5
  simp only [Bool.and_eq_true, decide_eq_true_eq] at a5
  exact a5.1
 ·rw [if_neg e] at a5; exact a5
 ·have := hn k O
  rw [e] at this
  unfold z38 at this
  simp at this
  have h8 : ∀ n : Nat, n < 8 -> (0 : Int) ∉ belowL[n]?.getD [] := by decide
  exact h8 x.kind.toNat (by omega) this.2
theorem zxo {s : ByteArray} (h : z4a s = true) : ¬ s = ByteArray.empty := by
 intro e
 subst e
 revert h
 decide
theorem zxp {A B : T} (na : (idsT A).Nodup) : z3k A B = true ↔ ∀ i x y, findR i A = (x, true) -> findR i B = (y, true) -> x.kind = y.kind := by
 unfold z3k
 rw [List.all_eq_true]
 constructor
 ·intro h i x y hx hy
  have hxn : x ∈ nodesT A := by have := z30 (id := i) (u := A) (by rw [hx]); rwa [hx] at this
  have hxi : x.id = i := by have := z8e (id := i) (t := A) (by rw [hx]); rwa [hx] at this
  have := h x hxn
  unfold z23 at this
  rw [hxi, hy] at this
  have h2 : y.kind = x.kind := by simpa using this
  exact h2.symm
 ·intro h x hx
  by_cases hB : z23 x.id B = true
  ·have := h x.id x (findR x.id B).1 (z0x na hx rfl) (Prod.ext rfl hB)
   simp [this]
  ·simp [hB]
theorem zt0 (A B : T) : z8n A B = true ↔ z3e A = true /\ z3e B = true /\ z3k A B = true := by
 unfold z8n; simp only [Bool.and_eq_true]
theorem zjo {A B : T} (h : z8n A B = true) : Books A B (mvB A B) := by
 obtain ⟨h1, h2, h3⟩ := (zt0 A B).1 h
 obtain ⟨a1, a2, a3⟩ := (z22 A).1 h1
 obtain ⟨b1, b2, b3⟩ := (z22 B).1 h2
 have O := (zxp a3).1 h3
 refine zy2 a3 b3 ((z9b h1).trans (z9b h2).symm) O fun i x y hx hy hl he => ?_
 have hxn : x ∈ nodesT A := by have := z30 (id := i) (u := A) (by rw [hx]); rwa [hx] at this
 have hyn : y ∈ nodesT B := by have := z30 (id := i) (u := B) (by rw [hy]); rwa [hy] at this
 obtain ⟨_, _, _, x4, _⟩ := zev h1 hxn
 obtain ⟨_, _, y3, _, _⟩ := zev h2 hyn
 by_cases hx0 : x.kind = 0
 ·refine hl ?_
  rw [he, y3 (by rw [<- O i x y hx hy]; exact hx0)]
 ·exact zxo (x4 hx0) he
theorem zt1 : ∀ t : T, z59 (z45 t) = z59 t := by
 refine z4f fun t ih => ?_
 rw [z7k, z7k, ziw, List.all_map, List.all_map, List.map_map]
 have l1 : ∀ x : T, (z45 x).label = x.label := fun x => by rw [z3n]; rfl
 have l2 : ∀ x : T, (z45 x).kind = x.kind := fun x => by rw [z3n]; rfl
 have e1 : z8y (z45 t) = z8y t := by
  unfold z8y zln
  rw [l1, l2, ziw]
  rw [z3n]
  simp only [T.head, T.words, List.length_map, List.all_map]
  rfl
 have e2 : (t.kids.all ((fun k => z38 (z45 t).kind k.kind) ∘ z45)) = t.kids.all fun k => z38 t.kind k.kind := by
  rw [l2]
  exact congrArg _ (funext fun k => by simp only [Function.comp_apply, l2])
 have e3 : t.kids.all (z59 ∘ z45) = t.kids.all z59 := by
  rw [Bool.eq_iff_iff, List.all_eq_true, List.all_eq_true]
  exact ⟨fun h k O => by rw [<- ih k O]; exact h k O, fun h k O => by simp only [Function.comp_apply]; rw [ih k O]; exact h k O⟩
 have e4 : t.kids.map (za4 ∘ z45) = t.kids.map za4 := List.map_congr_left fun k _ => by simp only [Function.comp_apply, za4, l1, l2]
 rw [e1, e2, e3, e4]
theorem zt2 : ∀ t : T, depT (z45 t) = depT t := by
 refine z4f fun t ih => ?_
 rw [zcf, zcf, ziw, List.map_map]
 exact congrArg _ (List.map_congr_left ih)
theorem zt3 (t : T) : cntT (z45 t) = cntT t := by rw [<- z9i, zmz, z9i]
theorem zt4 (t : T) : z4v (z45 t) = z4v t := by
 unfold z4v zod
 rw [zt1, zt2, zt3, zmz, zva]
 rw [show (z45 t).kind = t.kind by rw [z3n]; rfl]
theorem zxq (t : T) : z3e (z45 t) = z3e t := by
 rw [Bool.eq_iff_iff, z22, z22, zt4, zmz]
 rw [show (z45 t).kind = t.kind by rw [z3n]; rfl]
theorem zpp {A B : T} : z3k (z45 A) B = z3k A B := by
 unfold z3k
 rw [zkw, List.all_map]
 refine congrArg _ (funext fun x => ?_)
 simp only [Function.comp_apply, zva]
 rw [show (z45 x).kind = x.kind by rw [z3n]; rfl]
theorem z6i (A B : T) : z8n (z45 A) B = z8n A B := by unfold z8n; rw [zxq, zpp]
def zaf (A B : T) : TT := z12 A B (mvB A B) B
def movM (t : TT) (i : Idv) : Option TT := (z55 t).find? fun k => decide (k.state = 1) && (k.moved && decide (k.id = i))
theorem zpq (B : T) : ∀ u : T, ∀ k ∈ z55 (z32 B u), k.state = 2 := by
 refine z4f fun u ih k O => ?_
 rw [z5p, List.mem_cons] at O
 rcases O with rfl | O
 ·exact zhn B u
 ·rw [z6j] at O
  split at O
  ·simp [phT, TT.kids] at O
  ·have e : (zag u (u.kids.map (z32 B))).kids = u.kids.map (z32 B) := rfl
   rw [e, List.map_map, List.mem_flatten] at O
   obtain ⟨l, hl, O⟩ := O
   obtain ⟨z, hz, rfl⟩ := List.mem_map.1 hl
   exact ih z hz k O
theorem zm3 {A B : T} {mv : Idv -> Bool} : ∀ u : T, ∀ k ∈ z55 (z12 A B mv u), k.state = 2 \/ ∃ y ∈ nodesT u, k = z12 A B mv y := by
 refine z4f fun u ih k O => ?_
 rw [z5p, List.mem_cons] at O
 rcases O with rfl | O
 ·exact .inr ⟨u, z09 u, rfl⟩
 ·rw [z4u] at O
  have e : ∀ ks, (z57 A mv u ks).kids = ks := fun _ => rfl
  rw [e, List.mem_flatten] at O
  obtain ⟨l, hl, O⟩ := O
  obtain ⟨z, hz, rfl⟩ := List.mem_map.1 hl
  rw [(z8o _ _ _ _).mem_iff, List.mem_append] at hz
  rcases hz with hz | hz
  ·obtain ⟨x, _, rfl⟩ := List.mem_map.1 hz
   exact .inl (zpq B x k O)
  ·rw [List.map_map] at hz
   obtain ⟨y, hy, rfl⟩ := List.mem_map.1 hz
   rcases ih y hy k O with h | ⟨w, hw, h⟩
   ·exact .inl h
   ·exact .inr ⟨w, z0h hy hw, h⟩
theorem zpr {A B : T} {mv : Idv -> Bool} : ∀ u : T, ∀ y ∈ nodesT u, z12 A B mv y ∈ z55 (z12 A B mv u) := by
 refine z4f fun u ih y hy => ?_
 rw [z11, List.mem_cons, List.mem_flatMap] at hy
 rw [z5p, List.mem_cons]
 rcases hy with rfl | ⟨k, O, hy⟩
 ·exact .inl rfl
 ·refine .inr (List.mem_flatten.2 ⟨z55 (z12 A B mv k), List.mem_map.2 ⟨z12 A B mv k, ?_, rfl⟩, ih k O y hy⟩)
  have e : ∀ ks, (z57 A mv u ks).kids = ks := fun _ => rfl
  rw [z4u (u := u), e, (z8o _ _ _ _).mem_iff, List.mem_append, List.map_map]
  exact .inr (List.mem_map.2 ⟨k, O, rfl⟩)
theorem zt5 {A B : T} {mv : Idv -> Bool} (hb : Books A B mv) {i : Idv} (hi : mv i = true) : movM (z12 A B mv B) i = some (z12 A B mv (findR i B).1) := by
 obtain ⟨h1, h2⟩ := hb.kept i hi
 have hB : z23 i B = true := by rw [z15, decide_eq_true h2]
 have hy := z30 (id := i) (u := B) hB
 have hyi := z8e (id := i) (t := B) hB
 unfold movM
 cases h : (z55 (z12 A B mv B)).find? fun k => decide (k.state = 1) && (k.moved && decide (k.id = i)) with
 | none =>
  rw [List.find?_eq_none] at h
  have h3 := h _ (zpr B _ hy)
  refine absurd ?_ h3
  obtain ⟨f1, f2, f3⟩ := z50 (A := A) (B := B) (mv := mv) (findR i B).1
  rw [f1, f2, f3, hyi, hi]
  simp
 | some k =>
  have h3 := List.find?_some h
  simp only [Bool.and_eq_true, decide_eq_true_eq] at h3
  obtain ⟨k1, k2, k3⟩ := h3
  rcases zm3 B k (List.mem_of_find?_eq_some h) with h4 | ⟨y, hyn, rfl⟩
  ·rw [k1] at h4; cases h4
  ·rw [(z50 y).1] at k3
   rw [z0x hb.nb hyn k3]
theorem zxr {A B : T} (h : z8n A B = true) : ∀ n, depT A < n -> ∃ m, bkF (movM (zaf A B)) n (zaf A B) [] = some (z45 A, m) := by
 intro n hn
 have hb := zjo h
 have h1 := bk_node hb (M := movM (zaf A B)) (fun i hi => zt5 hb hi) A (z09 A) n hn [] (fun i hi => by cases hi)
 have e : zs9 A B (mvB A B) A = zaf A B := by
  unfold zs9 zaf
  rw [if_pos (by rw [z15, decide_eq_true_eq, hb.root]; exact z3x B), hb.root, z7i rfl]
 rw [e] at h1
 exact ⟨_, h1⟩
end Tr
end
open _root_.Go.Proofs.Tryd
section
open Abs Facts Tr
attribute [local irreducible] awp
set_option maxRecDepth 100000
namespace Tr
def zry (t : TT) : Bool := zga (fun t l => decide (t.label.size <= 1000000) && (decide (t.was.size <= 1000000) && (decide (t.head.length <= 2000000) && (decide (t.words.length <= 2000000) && (decide (t.kids.length <= 2000000) && l.all id))))) t
theorem z9s (t : TT) : zry t = true ↔ t.label.size <= 1000000 /\ t.was.size <= 1000000 /\ t.head.length <= 2000000 /\ t.words.length <= 2000000 /\ t.kids.length <= 2000000 /\ ∀ k ∈ t.kids, zry k = true := by
 unfold zry
 rw [ze5]
 simp only [Bool.and_eq_true, decide_eq_true_eq, List.all_map, List.all_eq_true, Function.comp_apply, id_eq]
end Tr
theorem z6x (l : List Tw) (hl : l.length <= 2000000) (n : Int) : PC prog 32 [z1s l, .int .i64 n] (z0s (z78 n l)) := by
 refine z2q 2 (by simp only [pureD.pureL, z3w, pureD, Bool.and_self]) (z0q _) (z2a [5] func32 rfl (by decide +kernel) rfl ?_)
 show awp _ _ (Code.seq _ _) _ _
 repeat' (first | refine nxt ?_ | ((refine zqh fun K hK => ?_); (simp (disch := omega) only [go_sem, Nat.reduceBEq, ↓reduceIte, z1s])) | (refine hK _ ?_; clear hK K))
 (refine z4g (fun U st => ∃ (k : _), U = l.length - k /\ st.t 1 = .int .i64 n /\ st.t 5 = .osl 0 (z78 n (l.take k)).length /\ st.t 8 = z1s l /\ st.t 9 = .int .i64 l.length /\ st.t 10 = .int .i64 k /\ st.H 0 = some (.row 83 (z78 n (l.take k)).length ((z78 n (l.take k)).flatMap z8b)) /\ (k <= l.length) /\ (0 < st.nx)) ?_ ?_); rotate_left; (rintro U st ⟨k, rfl, s1, s5, s8, s9, s10, sH0, sp0, sp1⟩); rotate_left
 ·(refine ⟨_, 0, rfl, ?_⟩); (simp (disch := omega) only [go_sem, Nat.reduceBEq, Nat.reduceLT, true_and, and_true, and_self, Int.natCast_zero, z1s])
  exact ⟨rfl, rfl⟩
 have hol : (z78 n (l.take k)).length <= 2000000 := by
  unfold z78
  rw [List.length_map]
  exact Nat.le_trans (List.length_filter_le _ _) (by rw [List.length_take]; omega)
 by_cases O : k < l.length
 ·have hta : z78 n (l.take (k + 1)) = z78 n (l.take k) ++ z78 n [l[k]] := by rw [List.take_succ_eq_append_getElem O, z2v]
  have hg := List.getElem?_eq_getElem O
  by_cases hst : l[k].state = n
  ·have h1 : z78 n [l[k]] = [] := by simp [z78, hst]
   rw [h1, List.append_nil] at hta
   repeat' (first | ((first | refine zqh fun K hK => ?_ | refine zqr fun K hK => ?_); (simp (disch := omega) only [go_sem, Nat.reduceBEq, ↓reduceIte, reduceCtorEq, Nat.reduceAdd, Nat.reduceLeDiff, s1, s8, s9, s10, z1s, hst])) | ((first | refine zqd _ rfl (fun hc => ?_) (fun hc => ?_) | refine zqm _ rfl (fun hc => ?_) (fun hc => ?_)) <;> (first | (cases hc; done) | ((try simp only [z07] at hc); (try omega)))) | refine nxt ?_ | (refine hK _ ?_; clear hK K))
   (refine Exists.intro _ (And.intro ?_ ⟨k + 1, rfl, ?_⟩)); rotate_left; (simp (disch := omega) only [go_sem, Nat.reduceBEq, s1, s5, s8, s9, s10, sH0, true_and, and_true, Int.natCast_add, Int.natCast_one, hta]); rotate_left
   ·omega
   ·omega
  ·have h1 : z78 n [l[k]] = [⟨l[k].text, Idv.zero⟩] := by simp [z78, hst]
   rw [h1] at hta
   repeat' (first | ((first | refine zqh fun K hK => ?_ | refine zqr fun K hK => ?_); (simp (disch := omega) only [go_sem, Nat.reduceBEq, ↓reduceIte, reduceCtorEq, Nat.reduceAdd, Nat.reduceMul, Nat.reduceLeDiff, s1, s5, s8, s9, s10, sH0, z1s, hst])) | ((first | refine zqd _ rfl (fun hc => ?_) (fun hc => ?_) | refine zqm _ rfl (fun hc => ?_) (fun hc => ?_)) <;> (first | (cases hc; done) | ((try simp only [z07] at hc); (try omega)))) | refine nxt ?_ | (refine hK _ ?_; clear hK K))
   (refine Exists.intro _ (And.intro ?_ ⟨k + 1, rfl, ?_⟩)); rotate_left; (simp (disch := omega) only [go_sem, Nat.reduceBEq, s1, s5, s8, s9, s10, sH0, true_and, and_true, Int.natCast_add, Int.natCast_one, List.flatMap_append, List.flatMap_cons, List.flatMap_nil, List.append_nil, hta]); rotate_left
   ·omega
   ·exact ⟨rfl, by omega⟩
 ·repeat' (first | ((refine zqh fun K hK => ?_); (simp (disch := omega) only [go_sem, Nat.reduceBEq, ↓reduceIte, s5, s9, s10])) | (refine zqd _ rfl ?_ ?_ <;> intro hc <;> (((try simp only [z07] at hc); (try omega)))) | refine nxt ?_ | refine zqz ?_ | refine zqu (by simp only [go_sem]; rfl) rfl ?_ | (refine hK _ ?_; clear hK K))
  have : l.take k = l := List.take_of_length_le (by omega)
  rw [this] at sH0 ⊢
  exact z64 (z1a 0 sH0 zed zj3 (fun _ => rfl) (fun _ => rfl))
theorem zg5 : ∀ t : T, szB t = true -> PC prog 19 [z17 t] (z17 (z45 t)) := by
 refine z4f fun t ih hs => ?_
 obtain ⟨h0, h1, g1, h2, g2, h3, h4⟩ := (z2n t).1 hs
 have b1 : PC prog 36 [z0s t.head] (z0s (t.head.map zgc)) := zo5 t.head h1
 have b2 : PC prog 36 [z0s t.words] (z0s (t.words.map zgc)) := zo5 t.words h2
 rw [z3n]
 refine z2q 4 (by simp only [pureD.pureL, z0b, Bool.and_self]) (z0b _) (z2a [3000006, 3000008, 3000010, 3000012, 5000013, 3000015, 5000016] func19 rfl (by decide +kernel) rfl ?_)
 show awp _ _ (Code.seq _ _) _ _
 rw [show Tryd.f19.results.toList = [.cell 2 27] from rfl]
 repeat' (first | refine nxt ?_ | ((first | refine z1h (N := 2) rfl fun K hK => ?_ | refine z5f (N := 2) rfl (by decide +kernel) fun K hK => ?_ | refine zqt (b1) ?_ | refine zqt (b2) ?_); (simp (disch := omega) only [go_sem, Nat.reduceBEq, Nat.reduceEqDiff, ↓reduceIte, reduceCtorEq, Nat.reduceAdd, Nat.reduceLeDiff, z0s])) | (refine hK _ ?_; clear hK K))
 refine z3a fun K hK => ?_
 (simp (disch := omega) only [go_sem])
 refine hK _ _ (z7j (b := 2) (off := 7) (e := 27) 27 (by (simp (disch := omega) only [go_sem, Nat.reduceBEq]); rfl) rfl) ?_
 clear hK K
 repeat' (refine zqa ?_)
 (refine z4g (fun U st => ∃ (i : _), U = t.kids.length - i /\ st.t 1 = .ptr 0 0 /\ st.t 2 = .ptr 1 0 /\ st.t 3 = .ptr 2 0 /\ st.t 4 = .int .i64 i /\ st.H 0 = some (.box 27 (z08 t)) /\ st.H 1 = some (.box 27 [.int .i64 0, .int .i64 0, .int .i64 0, .int .i64 0, .str ByteArray.empty, .nil, .nil, .nil]) /\ st.H 2 = some (.box 27 [.int .i64 t.id.act, .int .i64 t.id.item, .int .i64 t.id.n, .int .i64 t.kind, .str t.label, z0s (t.head.map zgc), z0s (t.words.map zgc), .osl 3 i]) /\ st.H 3 = some (.row 27 i (((t.kids.take i).map z45).flatMap z08)) /\ (i <= t.kids.length) /\ (4 <= st.nx)) ?_ ?_); rotate_left; (rintro U st ⟨i, rfl, q1, q2, q3, q4, qH0, qH1, qH2, qH3, qp0, qp1⟩); rotate_left
 ·(refine ⟨_, 0, rfl, ?_⟩); (simp (disch := omega) only [go_sem, Nat.reduceBEq, Nat.reduceAdd, Nat.reduceLeDiff, and_self, Int.natCast_zero, List.flatMap_nil, List.map_nil, z0s, List.set_cons_succ, List.set_cons_zero])
 by_cases hi : i < t.kids.length
 ·have hin := ih t.kids[i] (List.getElem_mem hi) (h4 _ (List.getElem_mem hi))
  have htk := List.take_succ_eq_append_getElem hi
  repeat' (first | refine nxt ?_ | ((first | refine zqh fun K hK => ?_ | refine zqr fun K hK => ?_ | refine zqq (by decide +kernel) fun K hK => ?_ | refine zqt (hin) ?_); (simp (disch := omega) only [go_sem, Nat.reduceBEq, Nat.reduceEqDiff, ↓reduceIte, reduceCtorEq, Nat.reduceAdd, Nat.reduceMul, Nat.reduceLeDiff, Nat.reduceLT, q1, q3, q4, qH0, qH2, qH3, z0m])) | (refine zqd _ rfl ?_ ?_ <;> intro hc <;> (((try simp only [z07] at hc); (try omega)))) | (refine hK _ ?_; clear hK K))
  (refine Exists.intro _ (And.intro ?_ ⟨i + 1, rfl, ?_⟩)); rotate_left; (simp (disch := omega) only [go_sem, Nat.reduceBEq, q1, q2, q3, q4, qH0, qH1, qH2, qH3, true_and, Int.natCast_add, Int.natCast_one, List.flatMap_append, List.flatMap_cons, List.flatMap_nil, List.map_append, List.map_cons, List.map_nil, List.append_nil, htk]); rotate_left
  ·omega
  ·omega
 ·repeat' (first | refine nxt ?_ | ((refine zqh fun K hK => ?_); (simp (disch := omega) only [go_sem, Nat.reduceBEq, ↓reduceIte, reduceCtorEq, Nat.reduceAdd, Nat.reduceLeDiff, q1, q2, q3, q4, qH0, qH1, qH2, z0m])) | (refine zqd _ rfl ?_ ?_ <;> intro hc <;> (((try simp only [z07] at hc); (try omega)))) | refine zqz ?_ | refine zqu (by (simp (disch := omega) only [go_sem, Nat.reduceBEq, ↓reduceIte, Nat.reduceAdd, Nat.reduceLeDiff, q2, qH1]); rfl) rfl ?_ | (refine hK _ ?_; clear hK K))
  have hi2 : i = t.kids.length := by omega
  subst hi2
  rw [List.take_length] at qH3
  rw [z17, z0r]
  have hlen : t.kids.length = (t.kids.map z45).length := by simp
  refine z64 (z8q (k := 3) (by simp [pureD.pureL, pureD]) ?_)
  refine z06 (z04 2 rfl) (z06 (z04 2 rfl) (z06 (z04 2 rfl) (z06 (z04 2 rfl) (z06 (z04 2 rfl) (z06 (z04 2 (z0q _)) (z06 (z04 2 (z0q _)) (z06 ?_ z3g)))))))
  rw [hlen]
  refine z1a (f := z08) (l := t.kids.map z45) 1 ?_ z9r zg4 z2u z29
  (simp (disch := omega) only [go_sem, Nat.reduceBEq, qH3])
theorem zzw : ∀ t : TT, zry t = true -> PC prog 16 [z2l t] (z17 (newT t)) := by
 refine zty fun t ih hs => ?_
 obtain ⟨h0, h00, h1, h2, h3, h4⟩ := (z9s t).1 hs
 have b1 := z6x t.head h1 2
 have b2 := z6x t.words h2 2
 rw [zwk]
 refine z2q 4 (by simp only [pureD.pureL, z2m, Bool.and_self]) (z0b _) (z2a [3000007, 3000009, 3000011, 3000013, 5000014, 3000016, 5000017] func16 rfl (by decide +kernel) rfl ?_)
 show awp _ _ (Code.seq _ _) _ _
 rw [show Tryd.f16.results.toList = [.cell 2 27] from rfl]
 repeat' (first | refine nxt ?_ | ((first | refine z1h (N := 2) rfl fun K hK => ?_ | refine z5f (N := 2) rfl (by decide +kernel) fun K hK => ?_ | refine zqt (b1) ?_ | refine zqt (b2) ?_); (simp (disch := omega) only [go_sem, Nat.reduceBEq, Nat.reduceEqDiff, ↓reduceIte, reduceCtorEq, Nat.reduceAdd, Nat.reduceLeDiff, z0s])) | (refine hK _ ?_; clear hK K))
 refine z3a fun K hK => ?_
 (simp (disch := omega) only [go_sem, Nat.reduceBEq, ↓reduceIte, reduceCtorEq, Nat.reduceAdd])
 refine hK _ _ (z7j (b := 2) (off := 7) (e := 27) 27 (by (simp (disch := omega) only [go_sem, Nat.reduceBEq]); rfl) rfl) ?_
 clear hK K
 repeat' (refine zqa ?_)
 (refine z4g (fun U st => ∃ (i : _), U = t.kids.length - i /\ st.t 1 = .ptr 0 0 /\ st.t 2 = .ptr 1 0 /\ st.t 3 = .ptr 2 0 /\ st.t 20 = z1z t.kids /\ st.t 21 = .int .i64 t.kids.length /\ st.t 22 = .int .i64 i /\ st.H 0 = some (.box 33 (z0k t)) /\ st.H 1 = some (.box 27 [.int .i64 0, .int .i64 0, .int .i64 0, .int .i64 0, .str ByteArray.empty, .nil, .nil, .nil]) /\ st.H 2 = some (.box 27 [.int .i64 t.id.act, .int .i64 t.id.item, .int .i64 t.id.n, .int .i64 t.kind, .str t.label, z0s (z78 2 t.head), z0s (z78 2 t.words), .osl 3 ((t.kids.take i).filter fun k => !decide (k.state = 2)).length]) /\ st.H 3 = some (.row 27 ((t.kids.take i).filter fun k => !decide (k.state = 2)).length ((((t.kids.take i).filter fun k => !decide (k.state = 2)).map newT).flatMap z08)) /\ (i <= t.kids.length) /\ (4 <= st.nx)) ?_ ?_); rotate_left; (rintro U st ⟨i, rfl, q1, q2, q3, q20, q21, q22, qH0, qH1, qH2, qH3, qp0, qp1⟩); rotate_left
 ·(refine ⟨_, 0, rfl, ?_⟩); (simp (disch := omega) only [go_sem, Nat.reduceBEq, Nat.reduceAdd, Nat.reduceLeDiff, true_and, and_true, and_self, Int.natCast_zero, z0s, z1z, List.set_cons_succ, List.set_cons_zero])
  exact ⟨rfl, rfl⟩
 have hfl : ((t.kids.take i).filter fun k => !decide (k.state = 2)).length <= 2000000 := Nat.le_trans (List.length_filter_le _ _) (by rw [List.length_take]; omega)
 by_cases hi : i < t.kids.length
 ·have hin := ih t.kids[i] (List.getElem_mem hi) (h4 _ (List.getElem_mem hi))
  have htk : (t.kids.take (i + 1)).filter (fun k => !decide (k.state = 2)) = ((t.kids.take i).filter fun k => !decide (k.state = 2)) ++ if t.kids[i].state = 2 then [] else [t.kids[i]] := by
   rw [List.take_succ_eq_append_getElem hi, List.filter_append]
   by_cases h : t.kids[i].state = 2 <;> simp [h]
  by_cases hst : t.kids[i].state = 2
  ·rw [if_pos hst, List.append_nil] at htk
   repeat' (first | ((first | refine zqh fun K hK => ?_ | refine zqr fun K hK => ?_); (simp (disch := omega) only [go_sem, Nat.reduceBEq, ↓reduceIte, reduceCtorEq, Nat.reduceAdd, Nat.reduceLeDiff, q20, q21, q22, z1z, hst])) | ((first | refine zqd _ rfl (fun hc => ?_) (fun hc => ?_) | refine zqm _ rfl (fun hc => ?_) (fun hc => ?_)) <;> (first | (cases hc; done) | ((try simp only [z07] at hc); (try omega)))) | refine nxt ?_ | (refine hK _ ?_; clear hK K))
   (refine Exists.intro _ (And.intro ?_ ⟨i + 1, rfl, ?_⟩)); rotate_left; (simp (disch := omega) only [go_sem, Nat.reduceBEq, Nat.reduceLeDiff, q1, q2, q3, q20, q21, q22, qH0, qH1, qH2, qH3, true_and, Int.natCast_add, Int.natCast_one, htk]); rotate_left
   ·omega
   ·omega
  ·rw [if_neg hst] at htk
   repeat' (first | ((first | refine zqh fun K hK => ?_ | refine zqr fun K hK => ?_ | refine zqq (by decide +kernel) fun K hK => ?_ | refine zqt (hin) ?_); (simp (disch := omega) only [go_sem, Nat.reduceBEq, Nat.reduceEqDiff, ↓reduceIte, reduceCtorEq, Nat.reduceAdd, Nat.reduceMul, Nat.reduceLeDiff, Nat.reduceLT, q3, q20, q21, q22, qH2, qH3, z1z, hst])) | ((first | refine zqd _ rfl (fun hc => ?_) (fun hc => ?_) | refine zqm _ rfl (fun hc => ?_) (fun hc => ?_)) <;> (first | (cases hc; done) | ((try simp only [z07] at hc); (try omega)))) | refine nxt ?_ | (refine hK _ ?_; clear hK K))
   (refine Exists.intro _ (And.intro ?_ ⟨i + 1, rfl, ?_⟩)); rotate_left; (simp (disch := omega) only [go_sem, Nat.reduceBEq, Nat.reduceLeDiff, q1, q2, q3, q20, q21, q22, qH0, qH1, qH2, qH3, true_and, Int.natCast_add, Int.natCast_one, List.flatMap_append, List.flatMap_cons, List.flatMap_nil, List.map_append, List.map_cons, List.map_nil, List.append_nil, htk]); rotate_left
   ·omega
   ·omega
 ·repeat' (first | ((refine zqh fun K hK => ?_); (simp (disch := omega) only [go_sem, Nat.reduceBEq, ↓reduceIte, Nat.reduceAdd, Nat.reduceLeDiff, q2, q3, q21, q22, qH1, qH2])) | (refine zqd _ rfl ?_ ?_ <;> intro hc <;> (((try simp only [z07] at hc); (try omega)))) | refine nxt ?_ | refine zqz ?_ | refine zqu (by (simp (disch := omega) only [go_sem, Nat.reduceBEq, ↓reduceIte, Nat.reduceAdd, Nat.reduceLeDiff, q2, qH1]); rfl) rfl ?_ | (refine hK _ ?_; clear hK K))
  have hi2 : t.kids.take i = t.kids := List.take_of_length_le (by omega)
  rw [hi2] at qH3 ⊢
  rw [z17, z0r]
  have hlen : (t.kids.filter fun k => !decide (k.state = 2)).length = ((t.kids.filter fun k => !decide (k.state = 2)).map newT).length := by simp
  refine z64 (z8q (k := 3) (by simp [pureD.pureL, pureD]) ?_)
  refine z06 (z04 2 rfl) (z06 (z04 2 rfl) (z06 (z04 2 rfl) (z06 (z04 2 rfl) (z06 (z04 2 rfl) (z06 (z04 2 (z0q _)) (z06 (z04 2 (z0q _)) (z06 ?_ z3g)))))))
  rw [hlen]
  refine z1a (f := z08) (l := (t.kids.filter fun k => !decide (k.state = 2)).map newT) 1 ?_ z9r zg4 z2u z29
  (simp (disch := omega) only [go_sem, Nat.reduceBEq, qH3])
end
end Go.Proofs.YtfechgagcgbldaaDoor
namespace Go.Proofs.YtfechgagcgbldaaDoor.Abs
open Go.RowKit
variable {P : Program}
theorem zsb {f : FuncId} {ds : List D} {k : Nat} {r : D} {o o' : HObj} (hr : lowD (k + 1) r = true) (ho : lowO (k + 1) o' = true)
  (h : ∀ H nx, k < nx -> H k = some o -> AC P f ds H nx fun r' H' _ => r' = r /\ H' k = some o' /\ ∀ id, id < nx -> id ≠ k -> H' id = H id) : TC P f ds k o o' r := by
 intro H nx O hH
 have h1 := zai (h H nx O hH) (fun r' H' nx' ⟨hr', h2, h3⟩ => by
  subst hr'
  refine ⟨zf2 (by omega) _ hr, fun id q hid hq => ?_⟩
  by_cases e : id = k
  ·subst e; rw [h2] at hq; cases hq; exact .inr (zf3 (by omega) ho)
  ·exact .inl (by rw [<- h3 id hid e]; exact hq))
 refine ⟨h1.1, fun s w vs e1 e2 e3 e4 => (h1.2 s w vs e1 e2 e3 e4).mono fun e w' ⟨v, r1, s1, he, ⟨hnx, H', nx', ⟨hr', h2, h3⟩, hcut⟩, hstep, hRH, hrel⟩ => ⟨v, r1, s1, he, ⟨hr', ?_, hnx⟩, hstep, hRH, hrel⟩⟩
 rw [hcut]
 funext id
 unfold zm7 z10
 by_cases e : id = k
 ·subst e; rw [if_pos O, if_pos rfl]; exact h2
 ·rw [if_neg e]
  split
  ·rename_i hlt; exact h3 id hlt e
  ·rename_i hlt
   cases hHi : H id with
   | none => rfl
   | some q =>
    have := (e3.obj id q (by rw [e1]; exact hHi)).1
    omega
def TC2 (P : Program) (f : FuncId) (ds : List D) (j k : Nat) (q o o' : HObj) (r : D) : Prop := ∀ H nx, j < nx -> k < nx -> H j = some q -> H k = some o -> AC P f ds H nx fun r' H2 n2 => r' = r /\ H2 = z10 H k (some o') /\ n2 = nx
theorem TC2_fin {f : FuncId} {ds : List D} {j k i : Nat} {r : D} {q o o' : HObj} (hr : pureD r = true) (hne : j ≠ k) (ho : lowO (k + 1) o' = true)
  (h : ∀ H nx, j < nx -> k < nx -> H j = some q -> H k = some o -> AC P f ds H nx fun r' H' _ => (∃ d, z2g P (hiH nx H') i r' = some d /\ Le d r) /\ H' k = some o' /\ ∀ id, id < nx -> id ≠ k -> H' id = H id) : TC2 P f ds j k q o o' r := by
 intro H nx hj O hHj hHk
 have h1 := zwj hr (h H nx hj O hHj hHk) (fun H' ⟨h2, h3⟩ id o1 hid ho1 => by
  by_cases e : id = k
  ·subst e; rw [h2] at ho1; cases ho1; exact .inr (zf3 (by omega) ho)
  ·exact .inl (by rw [<- h3 id hid e]; exact ho1))
 refine ⟨h1.1, fun s w vs e1 e2 e3 e4 => (h1.2 s w vs e1 e2 e3 e4).mono fun e w' ⟨v, r1, s1, he, ⟨hr', hnx, H', ⟨h2, h3⟩, hcut⟩, hstep, hRH, hrel⟩ => ⟨v, r1, s1, he, ⟨hr', ?_, hnx⟩, hstep, hRH, hrel⟩⟩
 rw [hcut]
 funext id
 unfold zm7 z10
 by_cases e : id = k
 ·subst e; rw [if_pos (by omega), if_pos rfl]; exact h2
 ·rw [if_neg e]
  split
  ·rename_i hlt; exact h3 id (by omega) e
  ·rename_i hlt
   cases hHi : H id with
   | none => rfl
   | some q =>
    have := (e3.obj id q (by rw [e1]; exact hHi)).1
    omega
end Go.Proofs.YtfechgagcgbldaaDoor.Abs
namespace Go.Proofs.YtfechgagcgbldaaDoor
open _root_.Go.Proofs.Tryd
section
open Abs Facts Tr
attribute [local irreducible] awp
set_option maxRecDepth 100000
theorem zcx {β : Type} {enc : β -> D} (he : ∀ x, pureD (enc x) = true) : ∀ (l : List (Idv × β)) (i : Idv), pureD (z83 enc l i) = true
 | [], _ => rfl
 | p :: l, i => by
  unfold z83
  split
  ·exact zcx he l i
  ·split
   ·exact he _
   ·rfl
theorem zj4 {β : Type} {enc : β -> D} (he : ∀ x, pureD (enc x) = true) (n : Nat) (l : List (Idv × β)) : lowO n (.map (mapI enc l)) = true := by
 show (lowD.lowL n ((mapI enc l).map (·.1)) && lowD.lowL n ((mapI enc l).map (·.2))) = true
 unfold mapI
 rw [List.map_map, List.map_map, Bool.and_eq_true]
 exact ⟨z1w _ _ (z0f (fun _ => rfl) _), z1w _ _ (z0f (fun i => zcx he l i) _)⟩
def unP (x : T) : Idv × T := (x.id, x)
theorem zoz (k : Nat) : ∀ u : T, szB u = true -> ∀ l : List (Idv × T), TC prog 40 [z17 u, .mp k] k (.map (mapI z17 l)) (.map (mapI z17 (l ++ (nodesT u).map unP))) (.mp k) := by
 refine z4f fun u ih hs l => ?_
 obtain ⟨h0, h1, g1, h2, g2, h3, h4⟩ := (z2n u).1 hs
 refine zsb (by simp [lowD]) (zj4 z0b _ _) fun H nx O hH => ?_
 have hq := z02 O
 refine (z2a [] func40 rfl (by decide +kernel) rfl ?_)
 show awp _ _ (Code.seq _ _) _ _
 rcases zcd z17 l u.id u with ⟨hm, n, hf, hp⟩ | ⟨hm, hf, hp⟩
 all_goals
  rw [zzh] at hp
  repeat' (first | refine nxt ?_ | ((refine zqh fun K hK => ?_); (simp (disch := omega) only [go_sem, Nat.reduceBEq, ↓reduceIte, reduceCtorEq, Nat.reduceAdd, Nat.reduceLeDiff, hq, hH, hf, hp])) | (refine hK _ ?_; clear hK K))
  (refine z4g (fun U st => ∃ (i : _), U = u.kids.length - i /\ st.t 1 = .mp k /\ st.t 2 = .ptr nx 0 /\ st.t 12 = z0m u.kids /\ st.t 13 = .int .i64 u.kids.length /\ st.t 14 = .int .i64 i /\ st.H (k) = some (.map (mapI z17 (l ++ (u.id, u) :: ((u.kids.take i).flatMap nodesT).map unP))) /\ st.H (nx) = some (.box 27 (z08 u)) /\ (i <= u.kids.length) /\ (nx < st.nx) /\ (∀ id, id < nx -> id ≠ k -> st.H id = H id)) ?_ ?_); rotate_left; (rintro U st ⟨i, rfl, q1, q2, q12, q13, q14, qHk, qHnx, qp0, qp1, qp2⟩); rotate_left
  ·(refine ⟨_, 0, rfl, ?_⟩); (simp (disch := omega) only [go_sem, Nat.reduceBEq, true_and, Int.natCast_zero, List.flatMap_nil, List.map_nil, z0m, hq])
   exact ⟨by omega, fun id hid hne => by simp (disch := omega) only [z0a]⟩
  have hqs := z02 (show k < st.nx by omega)
  have hqn := z02 qp1
  by_cases hi : i < u.kids.length
  ·have hin := ih u.kids[i] (List.getElem_mem hi) (h4 _ (List.getElem_mem hi)) (l ++ (u.id, u) :: ((u.kids.take i).flatMap nodesT).map unP)
   have htk : l ++ (u.id, u) :: ((u.kids.take i).flatMap nodesT).map unP ++ (nodesT u.kids[i]).map unP = l ++ (u.id, u) :: ((u.kids.take (i + 1)).flatMap nodesT).map unP := by
    rw [List.take_succ_eq_append_getElem hi, List.flatMap_append, List.map_append]; simp
   rw [htk] at hin
   repeat' (first | ((first | refine zqh fun K hK => ?_ | refine zqr fun K hK => ?_ | ((refine z8a (hin) ?_ ?_ ?_); (focus ((simp (disch := omega) only [go_sem, qHk, hqs]); done)); (focus (((simp (disch := omega) only [go_sem]); done))))); (simp (disch := omega) only [go_sem, Nat.reduceBEq, ↓reduceIte, reduceCtorEq, Nat.reduceAdd, Nat.reduceLeDiff, q1, q12, q13, q14, z0m])) | (refine zqd _ rfl ?_ ?_ <;> intro hc <;> (((try simp only [z07] at hc); (try omega)))) | refine nxt ?_ | (refine hK _ ?_; clear hK K))
   (refine Exists.intro _ (And.intro ?_ ⟨i + 1, rfl, ?_⟩)); rotate_left; (simp (disch := omega) only [go_sem, Nat.reduceBEq, q1, q2, q12, q13, q14, qHk, qHnx, true_and, Int.natCast_add, Int.natCast_one, hq, hqs, hqn]); rotate_left
   ·omega
   ·exact ⟨by omega, fun id hid hne => by simp (disch := omega) only [z0a]; exact qp2 id hid hne⟩
  ·repeat' (first | ((refine zqh fun K hK => ?_); (simp (disch := omega) only [go_sem, Nat.reduceBEq, ↓reduceIte, q1, q13, q14])) | (refine zqd _ rfl ?_ ?_ <;> intro hc <;> (((try simp only [z07] at hc); (try omega)))) | refine nxt ?_ | refine zqz ?_ | refine zqu (by simp only [go_sem]; rfl) rfl ?_ | (refine hK _ ?_; clear hK K))
   have hta : u.kids.take i = u.kids := List.take_of_length_le (by omega)
   rw [hta] at qHk
   have e : l ++ (nodesT u).map unP = l ++ (u.id, u) :: (u.kids.flatMap nodesT).map unP := by rw [z11]; rfl
   rw [e]
   (simp (disch := omega) only [go_sem, Nat.reduceBEq, qHk])
   exact qp2
namespace Tr
def zav (l : List (Idv × TT)) (t : TT) : List (Idv × TT) := if t.id ∉ l.map (·.1) /\ t.state = 1 /\ t.moved = true then l ++ [(t.id, t)] else l
def zas (t : TT) (l : List (Idv × TT)) : List (Idv × TT) := (z55 t).foldl zav l
theorem movL_eq (t : TT) (l : List (Idv × TT)) : zas t l = t.kids.foldl (fun l k => zas k l) (zav l t) := by
 unfold zas
 rw [z5p, List.foldl_cons, List.foldl_flatten, List.foldl_map]
end Tr
theorem zc4 {β : Type} {enc : β -> D} {k : Idv} : ∀ {l : List (Idv × β)}, k ∈ l.map (·.1) -> ∃ v, (k, v) ∈ l /\ z83 enc l k = enc v
 | [], h => by cases h
 | p :: l, h => by
  unfold z83
  by_cases h2 : k ∈ l.map (·.1)
  ·obtain ⟨v, h3, h4⟩ := zc4 (enc := enc) h2
   exact ⟨v, List.mem_cons_of_mem _ h3, by rw [if_pos h2, h4]⟩
  ·rw [List.map_cons, List.mem_cons] at h
   rcases h with h | h
   ·exact ⟨p.2, by rw [h]; simp, by rw [if_neg h2, if_pos h.symm]⟩
   ·exact absurd h h2
theorem zzy (k : Nat) : ∀ t : TT, zry t = true -> ∀ l : List (Idv × TT), TC prog 33 [z2l t, .mp k] k (.map (mapI z2l l)) (.map (mapI z2l (zas t l))) (.mp k) := by
 refine zty fun t ih hs l => ?_
 obtain ⟨h0, h00, h1, h2, h3, h4⟩ := (z9s t).1 hs
 refine zsb (by simp [lowD]) (zj4 z2m _ _) fun H nx O hH => ?_
 have hq := z02 O
 rw [movL_eq]
 refine (z2a [] func33 rfl (by decide +kernel) rfl ?_)
 show awp _ _ (Code.seq _ _) _ _
 rcases zcd z2l l t.id t with ⟨hm, n, hf, hp⟩ | ⟨hm, hf, hp⟩
 ·obtain ⟨v, _, hv⟩ := zc4 (enc := z2l) hm
  rw [hv] at hf
  have hms : zav l t = l := if_neg fun h => h.1 hm
  repeat' (first | refine nxt ?_ | ((refine zqh fun K hK => ?_); (simp (disch := omega) only [go_sem, Nat.reduceBEq, ↓reduceIte, reduceCtorEq, Nat.reduceAdd, Nat.reduceLeDiff, hq, hH, hf])) | (refine zqd _ rfl ?_ ?_ <;> intro hc <;> (first | (cases hc; done) | ((try simp only [] at hc); (try omega)))) | (refine hK _ ?_; clear hK K))
  (refine z4g (fun U st => ∃ (i : _), U = t.kids.length - i /\ st.t 1 = .mp k /\ st.t 2 = .ptr nx 0 /\ st.t 32 = z1z t.kids /\ st.t 33 = .int .i64 t.kids.length /\ st.t 34 = .int .i64 i /\ st.H (k) = some (.map (mapI z2l ((t.kids.take i).foldl (fun l k => zas k l) (zav l t)))) /\ st.H (nx) = some (.box 33 (z0k t)) /\ (i <= t.kids.length) /\ (nx < st.nx) /\ (∀ id, id < nx -> id ≠ k -> st.H id = H id)) ?_ ?_); rotate_left; (rintro U st ⟨i, rfl, q1, q2, q32, q33, q34, qHk, qHnx, qp0, qp1, qp2⟩); rotate_left
  ·(refine ⟨_, 0, rfl, ?_⟩); (simp (disch := omega) only [go_sem, Nat.reduceBEq, true_and, Int.natCast_zero, z1z, hq, hms])
   exact ⟨by first | exact hH | rfl, fun id hid hne => by simp (disch := omega) only [z0a]⟩
  have hqs := z02 (show k < st.nx by omega)
  have hqn := z02 qp1
  by_cases hi : i < t.kids.length
  ·have hin := ih t.kids[i] (List.getElem_mem hi) (h4 _ (List.getElem_mem hi)) ((t.kids.take i).foldl (fun l k => zas k l) (zav l t))
   have htk : zas t.kids[i] ((t.kids.take i).foldl (fun l k => zas k l) (zav l t)) = (t.kids.take (i + 1)).foldl (fun l k => zas k l) (zav l t) := by
    rw [List.take_succ_eq_append_getElem hi, List.foldl_append]; rfl
   rw [htk] at hin
   repeat' (first | ((first | refine zqh fun K hK => ?_ | refine zqr fun K hK => ?_ | ((refine z8a (hin) ?_ ?_ ?_); (focus ((simp (disch := omega) only [go_sem, qHk, hqs]); done)); (focus (((simp (disch := omega) only [go_sem]); done))))); (simp (disch := omega) only [go_sem, Nat.reduceBEq, ↓reduceIte, reduceCtorEq, Nat.reduceAdd, Nat.reduceLeDiff, q1, q32, q33, q34, z1z])) | (refine zqd _ rfl ?_ ?_ <;> intro hc <;> (((try simp only [z07] at hc); (try omega)))) | refine nxt ?_ | (refine hK _ ?_; clear hK K))
   (refine Exists.intro _ (And.intro ?_ ⟨i + 1, rfl, ?_⟩)); rotate_left; (simp (disch := omega) only [go_sem, Nat.reduceBEq, q1, q2, q32, q33, q34, qHk, qHnx, true_and, Int.natCast_add, Int.natCast_one, hq, hqs, hqn]); rotate_left
   ·omega
   ·exact ⟨by omega, fun id hid hne => by simp (disch := omega) only [z0a]; exact qp2 id hid hne⟩
  ·repeat' (first | ((refine zqh fun K hK => ?_); (simp (disch := omega) only [go_sem, Nat.reduceBEq, ↓reduceIte, q1, q33, q34])) | (refine zqd _ rfl ?_ ?_ <;> intro hc <;> (((try simp only [z07] at hc); (try omega)))) | refine nxt ?_ | refine zqz ?_ | refine zqu (by simp only [go_sem]; rfl) rfl ?_ | (refine hK _ ?_; clear hK K))
   have hta : t.kids.take i = t.kids := List.take_of_length_le (by omega)
   rw [hta] at qHk
   (simp (disch := omega) only [go_sem, Nat.reduceBEq, qHk])
   exact qp2
 ·rw [z68] at hp
  by_cases hs1 : t.state = 1
  ·by_cases hs2 : t.moved = true
   ·have hms : zav l t = l ++ [(t.id, t)] := if_pos ⟨hm, hs1, hs2⟩
    repeat' (first | refine nxt ?_ | ((refine zqh fun K hK => ?_); (simp (disch := omega) only [go_sem, Nat.reduceBEq, ↓reduceIte, reduceCtorEq, Nat.reduceAdd, Nat.reduceLeDiff, hq, hH, hf, hp, hs1, hs2])) | (refine zqd _ rfl ?_ ?_ <;> intro hc <;> (first | (cases hc; done) | ((try simp only [] at hc); (try omega)))) | (refine hK _ ?_; clear hK K))
    (refine z4g (fun U st => ∃ (i : _), U = t.kids.length - i /\ st.t 1 = .mp k /\ st.t 2 = .ptr nx 0 /\ st.t 32 = z1z t.kids /\ st.t 33 = .int .i64 t.kids.length /\ st.t 34 = .int .i64 i /\ st.H (k) = some (.map (mapI z2l ((t.kids.take i).foldl (fun l k => zas k l) (zav l t)))) /\ st.H (nx) = some (.box 33 (z0k t)) /\ (i <= t.kids.length) /\ (nx < st.nx) /\ (∀ id, id < nx -> id ≠ k -> st.H id = H id)) ?_ ?_); rotate_left; (rintro U st ⟨i, rfl, q1, q2, q32, q33, q34, qHk, qHnx, qp0, qp1, qp2⟩); rotate_left
    ·(refine ⟨_, 0, rfl, ?_⟩); (simp (disch := omega) only [go_sem, Nat.reduceBEq, true_and, Int.natCast_zero, z1z, hq, hms])
     exact ⟨by first | exact hH | rfl, fun id hid hne => by simp (disch := omega) only [z0a]⟩
    have hqs := z02 (show k < st.nx by omega)
    have hqn := z02 qp1
    by_cases hi : i < t.kids.length
    ·have hin := ih t.kids[i] (List.getElem_mem hi) (h4 _ (List.getElem_mem hi)) ((t.kids.take i).foldl (fun l k => zas k l) (zav l t))
     have htk : zas t.kids[i] ((t.kids.take i).foldl (fun l k => zas k l) (zav l t)) = (t.kids.take (i + 1)).foldl (fun l k => zas k l) (zav l t) := by
      rw [List.take_succ_eq_append_getElem hi, List.foldl_append]; rfl
     rw [htk] at hin
     repeat' (first | ((first | refine zqh fun K hK => ?_ | refine zqr fun K hK => ?_ | ((refine z8a (hin) ?_ ?_ ?_); (focus ((simp (disch := omega) only [go_sem, qHk, hqs]); done)); (focus (((simp (disch := omega) only [go_sem]); done))))); (simp (disch := omega) only [go_sem, Nat.reduceBEq, ↓reduceIte, reduceCtorEq, Nat.reduceAdd, Nat.reduceLeDiff, q1, q32, q33, q34, z1z])) | (refine zqd _ rfl ?_ ?_ <;> intro hc <;> (((try simp only [z07] at hc); (try omega)))) | refine nxt ?_ | (refine hK _ ?_; clear hK K))
     (refine Exists.intro _ (And.intro ?_ ⟨i + 1, rfl, ?_⟩)); rotate_left; (simp (disch := omega) only [go_sem, Nat.reduceBEq, q1, q2, q32, q33, q34, qHk, qHnx, true_and, Int.natCast_add, Int.natCast_one, hq, hqs, hqn]); rotate_left
     ·omega
     ·exact ⟨by omega, fun id hid hne => by simp (disch := omega) only [z0a]; exact qp2 id hid hne⟩
    ·repeat' (first | ((refine zqh fun K hK => ?_); (simp (disch := omega) only [go_sem, Nat.reduceBEq, ↓reduceIte, q1, q33, q34])) | (refine zqd _ rfl ?_ ?_ <;> intro hc <;> (((try simp only [z07] at hc); (try omega)))) | refine nxt ?_ | refine zqz ?_ | refine zqu (by simp only [go_sem]; rfl) rfl ?_ | (refine hK _ ?_; clear hK K))
     have hta : t.kids.take i = t.kids := List.take_of_length_le (by omega)
     rw [hta] at qHk
     (simp (disch := omega) only [go_sem, Nat.reduceBEq, qHk])
     exact qp2
   ·have hms : zav l t = l := if_neg fun h => hs2 h.2.2
    rw [Bool.not_eq_true] at hs2
    repeat' (first | refine nxt ?_ | ((refine zqh fun K hK => ?_); (simp (disch := omega) only [go_sem, Nat.reduceBEq, ↓reduceIte, reduceCtorEq, Nat.reduceAdd, Nat.reduceLeDiff, hq, hH, hf, hs1, hs2])) | (refine zqd _ rfl ?_ ?_ <;> intro hc <;> (first | (cases hc; done) | ((try simp only [] at hc); (try omega)))) | (refine hK _ ?_; clear hK K))
    (refine z4g (fun U st => ∃ (i : _), U = t.kids.length - i /\ st.t 1 = .mp k /\ st.t 2 = .ptr nx 0 /\ st.t 32 = z1z t.kids /\ st.t 33 = .int .i64 t.kids.length /\ st.t 34 = .int .i64 i /\ st.H (k) = some (.map (mapI z2l ((t.kids.take i).foldl (fun l k => zas k l) (zav l t)))) /\ st.H (nx) = some (.box 33 (z0k t)) /\ (i <= t.kids.length) /\ (nx < st.nx) /\ (∀ id, id < nx -> id ≠ k -> st.H id = H id)) ?_ ?_); rotate_left; (rintro U st ⟨i, rfl, q1, q2, q32, q33, q34, qHk, qHnx, qp0, qp1, qp2⟩); rotate_left
    ·(refine ⟨_, 0, rfl, ?_⟩); (simp (disch := omega) only [go_sem, Nat.reduceBEq, true_and, Int.natCast_zero, z1z, hq, hms])
     exact ⟨by first | exact hH | rfl, fun id hid hne => by simp (disch := omega) only [z0a]⟩
    have hqs := z02 (show k < st.nx by omega)
    have hqn := z02 qp1
    by_cases hi : i < t.kids.length
    ·have hin := ih t.kids[i] (List.getElem_mem hi) (h4 _ (List.getElem_mem hi)) ((t.kids.take i).foldl (fun l k => zas k l) (zav l t))
     have htk : zas t.kids[i] ((t.kids.take i).foldl (fun l k => zas k l) (zav l t)) = (t.kids.take (i + 1)).foldl (fun l k => zas k l) (zav l t) := by
      rw [List.take_succ_eq_append_getElem hi, List.foldl_append]; rfl
     rw [htk] at hin
     repeat' (first | ((first | refine zqh fun K hK => ?_ | refine zqr fun K hK => ?_ | ((refine z8a (hin) ?_ ?_ ?_); (focus ((simp (disch := omega) only [go_sem, qHk, hqs]); done)); (focus (((simp (disch := omega) only [go_sem]); done))))); (simp (disch := omega) only [go_sem, Nat.reduceBEq, ↓reduceIte, reduceCtorEq, Nat.reduceAdd, Nat.reduceLeDiff, q1, q32, q33, q34, z1z])) | (refine zqd _ rfl ?_ ?_ <;> intro hc <;> (((try simp only [z07] at hc); (try omega)))) | refine nxt ?_ | (refine hK _ ?_; clear hK K))
     (refine Exists.intro _ (And.intro ?_ ⟨i + 1, rfl, ?_⟩)); rotate_left; (simp (disch := omega) only [go_sem, Nat.reduceBEq, q1, q2, q32, q33, q34, qHk, qHnx, true_and, Int.natCast_add, Int.natCast_one, hq, hqs, hqn]); rotate_left
     ·omega
     ·exact ⟨by omega, fun id hid hne => by simp (disch := omega) only [z0a]; exact qp2 id hid hne⟩
    ·repeat' (first | ((refine zqh fun K hK => ?_); (simp (disch := omega) only [go_sem, Nat.reduceBEq, ↓reduceIte, q1, q33, q34])) | (refine zqd _ rfl ?_ ?_ <;> intro hc <;> (((try simp only [z07] at hc); (try omega)))) | refine nxt ?_ | refine zqz ?_ | refine zqu (by simp only [go_sem]; rfl) rfl ?_ | (refine hK _ ?_; clear hK K))
     have hta : t.kids.take i = t.kids := List.take_of_length_le (by omega)
     rw [hta] at qHk
     (simp (disch := omega) only [go_sem, Nat.reduceBEq, qHk])
     exact qp2
  ·have hms : zav l t = l := if_neg fun h => hs1 h.2.1
   repeat' (first | refine nxt ?_ | ((refine zqh fun K hK => ?_); (simp (disch := omega) only [go_sem, Nat.reduceBEq, ↓reduceIte, reduceCtorEq, Nat.reduceAdd, Nat.reduceLeDiff, hq, hH, hf, hs1])) | (refine zqd _ rfl ?_ ?_ <;> intro hc <;> (first | (cases hc; done) | ((try simp only [] at hc); (try omega)))) | (refine hK _ ?_; clear hK K))
   (refine z4g (fun U st => ∃ (i : _), U = t.kids.length - i /\ st.t 1 = .mp k /\ st.t 2 = .ptr nx 0 /\ st.t 32 = z1z t.kids /\ st.t 33 = .int .i64 t.kids.length /\ st.t 34 = .int .i64 i /\ st.H (k) = some (.map (mapI z2l ((t.kids.take i).foldl (fun l k => zas k l) (zav l t)))) /\ st.H (nx) = some (.box 33 (z0k t)) /\ (i <= t.kids.length) /\ (nx < st.nx) /\ (∀ id, id < nx -> id ≠ k -> st.H id = H id)) ?_ ?_); rotate_left; (rintro U st ⟨i, rfl, q1, q2, q32, q33, q34, qHk, qHnx, qp0, qp1, qp2⟩); rotate_left
   ·(refine ⟨_, 0, rfl, ?_⟩); (simp (disch := omega) only [go_sem, Nat.reduceBEq, true_and, Int.natCast_zero, z1z, hq, hms])
    exact ⟨by first | exact hH | rfl, fun id hid hne => by simp (disch := omega) only [z0a]⟩
   have hqs := z02 (show k < st.nx by omega)
   have hqn := z02 qp1
   by_cases hi : i < t.kids.length
   ·have hin := ih t.kids[i] (List.getElem_mem hi) (h4 _ (List.getElem_mem hi)) ((t.kids.take i).foldl (fun l k => zas k l) (zav l t))
    have htk : zas t.kids[i] ((t.kids.take i).foldl (fun l k => zas k l) (zav l t)) = (t.kids.take (i + 1)).foldl (fun l k => zas k l) (zav l t) := by
     rw [List.take_succ_eq_append_getElem hi, List.foldl_append]; rfl
    rw [htk] at hin
    repeat' (first | ((first | refine zqh fun K hK => ?_ | refine zqr fun K hK => ?_ | ((refine z8a (hin) ?_ ?_ ?_); (focus ((simp (disch := omega) only [go_sem, qHk, hqs]); done)); (focus (((simp (disch := omega) only [go_sem]); done))))); (simp (disch := omega) only [go_sem, Nat.reduceBEq, ↓reduceIte, reduceCtorEq, Nat.reduceAdd, Nat.reduceLeDiff, q1, q32, q33, q34, z1z])) | (refine zqd _ rfl ?_ ?_ <;> intro hc <;> (((try simp only [z07] at hc); (try omega)))) | refine nxt ?_ | (refine hK _ ?_; clear hK K))
    (refine Exists.intro _ (And.intro ?_ ⟨i + 1, rfl, ?_⟩)); rotate_left; (simp (disch := omega) only [go_sem, Nat.reduceBEq, q1, q2, q32, q33, q34, qHk, qHnx, true_and, Int.natCast_add, Int.natCast_one, hq, hqs, hqn]); rotate_left
    ·omega
    ·exact ⟨by omega, fun id hid hne => by simp (disch := omega) only [z0a]; exact qp2 id hid hne⟩
   ·repeat' (first | ((refine zqh fun K hK => ?_); (simp (disch := omega) only [go_sem, Nat.reduceBEq, ↓reduceIte, q1, q33, q34])) | (refine zqd _ rfl ?_ ?_ <;> intro hc <;> (((try simp only [z07] at hc); (try omega)))) | refine nxt ?_ | refine zqz ?_ | refine zqu (by simp only [go_sem]; rfl) rfl ?_ | (refine hK _ ?_; clear hK K))
    have hta : t.kids.take i = t.kids := List.take_of_length_le (by omega)
    rw [hta] at qHk
    (simp (disch := omega) only [go_sem, Nat.reduceBEq, qHk])
    exact qp2
end
section
open Abs Facts Tr
attribute [local irreducible] awp
namespace Tr
def zu0 (u : T) : Bool := z4v u && !((if u.kind = 0 then (idsT u).drop 1 else idsT u).any fun x => decide (x = Idv.zero))
end Tr
end
section
open Abs Facts Go.Lib
variable {P : Program}
end
section
open Abs Facts Go.Lib Go.Shelf Go.RowKit
end
section
open Abs Facts Go.Lib Go.RowKit
end
section
open Abs Facts Tr
attribute [local irreducible] awp
namespace Abs
theorem z5a {P : Program} {own : List Nat} {n : FuncId} {args cap : List D} {g : List Oper -> (St -> Prop) -> St -> Prop} {rest : List Oper} {K : St -> Prop} {st : St} {dst : Option Nat} {r : D} {H : HM} {nx : Nat}
  (h : AC P n (args ++ cap) st.H st.nx fun r' H' nx' => r' = r /\ H' = H /\ nx' = nx) (h0 : z0c 5000000 own dst = false) (hm : z0c 4000000 own dst = true) (hs : z95 st H nx) (O : g rest K ((st.withH H nx).put dst r)) (ht : tcM own dst = none := by rfl) (hN : z0c 10000000 own dst = false := by rfl) : zvw P own (.fn n cap) args g rest K st dst :=
 .inr (.inr ⟨h0, hm, r, H, nx, h, .inl ⟨ht, .inl ⟨hN, hs⟩⟩, O⟩)
def cellsE (t : T) : List D := [.int .i64 t.id.act, .int .i64 t.id.item, .int .i64 t.id.n, .int .i64 t.kind, .str t.label, z0s t.head, z0s t.words, z0m t.kids]
end Abs
end
end Go.Proofs.YtfechgagcgbldaaDoor
namespace Go.Proofs.YtfechgagcgbldaaDoor.Abs
theorem zk1 {P : Program} {own : List Nat} {a b : Code} {Q : Exit -> St -> Prop} {st : St} (I : St -> Prop) (h2 : awp P own a (zlo I Q) st) (h1 : ∀ st, I st -> awp P own b Q st) : awp P own (.seq a b) Q st :=
 z5k a _ _ st (zl9 (fun st h => ⟨st, SealTo.refl st, h1 st h⟩) (fun _ _ h => h)) h2
theorem z84 {P : Program} {own : List Nat} {a b c : Code} {Q : Exit -> St -> Prop} {st : St} (I : St -> Prop) (h2 : awp P own (.seq a b) (zlo I Q) st) (h1 : ∀ st, I st -> awp P own c Q st) : awp P own (.seq a (.seq b c)) Q st :=
 z5k a _ _ st (fun e st h => by
  cases e with
  | normal => obtain ⟨st', hs, h⟩ := h; exact ⟨st', hs, zk1 I h h1⟩
  | _ => exact h) h2
theorem seqK_J {I : St -> Prop} {Q : Exit -> St -> Prop} {st : St} (h : I st) : zlo I Q .normal st := h
end Go.Proofs.YtfechgagcgbldaaDoor.Abs
namespace Go.Proofs.YtfechgagcgbldaaDoor
open _root_.Go.Proofs.Tryd
section
open Abs Facts Tr
attribute [local irreducible] awp
set_option maxRecDepth 100000
namespace Tr
theorem z40 (f : TT -> List Idv -> Option (T × List Idv)) (M : Idv -> Option TT) (r : List TT) : ∀ (l : List TT) (m : List Idv), bkL f M (l ++ r) m = (bkL f M l m).bind fun q => (bkL f M r q.2).map fun p => (q.1 ++ p.1, p.2)
 | [], m => by
  rw [List.nil_append, bkL, Option.bind_some]
  cases bkL f M r m <;> rfl
 | k :: l, m => by
  rw [List.cons_append, bkL, bkL]
  split
  ·exact z40 f M r l m
  ·split
   ·split
    ·exact z40 f M r l m
    ·split
     ·exact z40 f M r l _
     ·rename_i k' _
      cases f k' (m ++ [k.id]) with
      | none => rfl
      | some q =>
       simp only [Option.bind_some]
       rw [z40 f M r l q.2]
       cases bkL f M l q.2 with
       | none => rfl
       | some p =>
        simp only [Option.bind_some, Option.map_some]
        cases bkL f M r p.2 <;> rfl
   ·cases f k m with
    | none => rfl
    | some q =>
     simp only [Option.bind_some]
     rw [z40 f M r l q.2]
     cases bkL f M l q.2 with
     | none => rfl
     | some p =>
      simp only [Option.bind_some, Option.map_some]
      cases bkL f M r p.2 <;> rfl
theorem zys {f : TT -> List Idv -> Option (T × List Idv)} {M : Idv -> Option TT} {l : List TT} {m mi m' : List Idv} {us ks : List T} {i : Nat} (hi : i < l.length) (hb : bkL f M l m = some (ks, m')) (hq : bkL f M (l.take i) m = some (us, mi)) :
  ∃ vs m1, bkL f M [l[i]] mi = some (vs, m1) /\ bkL f M (l.take (i + 1)) m = some (us ++ vs, m1) := by
 have e : l = l.take (i + 1) ++ l.drop (i + 1) := (List.take_append_drop _ _).symm
 have h1 := z40 f M [l[i]] (l.take i) m
 rw [<- List.take_succ_eq_append_getElem hi, hq] at h1
 simp only [Option.bind_some] at h1
 rw [e, z40] at hb
 cases hv : bkL f M [l[i]] mi with
 | none =>
  rw [hv] at h1
  rw [h1] at hb
  cases hb
 | some q =>
  rw [hv] at h1
  exact ⟨q.1, q.2, rfl, h1⟩
def zbk (L : List (Idv × TT)) (i : Idv) : Option TT := (L.find? fun p => decide (p.1 = i)).map (·.2)
theorem zh4 {L : List (Idv × TT)} {i : Idv} : zbk L i = none ↔ i ∉ L.map (·.1) := by
 unfold zbk
 rw [Option.map_eq_none_iff, List.find?_eq_none]
 simp only [decide_eq_true_eq, List.mem_map, not_exists, not_and]
theorem zq9 {L : List (Idv × TT)} {i : Idv} {t : TT} (h : zbk L i = some t) : (i, t) ∈ L := by
 unfold zbk at h
 rw [Option.map_eq_some_iff] at h
 obtain ⟨p, h1, rfl⟩ := h
 have h2 := List.find?_some h1
 simp only [decide_eq_true_eq] at h2
 rw [<- h2]; exact List.mem_of_find?_eq_some h1
end Tr
theorem zyt (n : Nat) (l : List Idv) : lowO n (.map (setI l)) = true := by
 show (lowD.lowL n ((setI l).map (·.1)) && lowD.lowL n ((setI l).map (·.2))) = true
 unfold setI
 rw [List.map_map, List.map_map, Bool.and_eq_true]
 exact ⟨z1w _ _ (z0f (fun _ => rfl) _), z1w _ _ (z0f (fun _ => rfl) _)⟩
theorem z5e {k nx : Nat} (h : k < nx) : (nx + 4 == nx) = false /\ (nx + 4 == nx + 1) = false /\ (nx + 4 == nx + 2) = false /\ (nx + 4 == nx + 3) = false /\ (nx == nx + 4) = false /\ (nx + 1 == nx + 4) = false /\ (nx + 2 == nx + 4) = false /\ (nx + 3 == nx + 4) = false /\ (k == nx + 4) = false /\ (nx + 4 == k) = false :=
 ⟨z1x (by omega), z1x (by omega), z1x (by omega), z1x (by omega), z1x (by omega), z1x (by omega), z1x (by omega), z1x (by omega), z1x (by omega), z1x (by omega)⟩
namespace Tr
theorem zun {f : TT -> List Idv -> Option (T × List Idv)} {M : Idv -> Option TT} {k : TT} {mi m1 : List Idv} {vs : List T} (h : bkL f M [k] mi = some (vs, m1)) :
  (k.state ≠ 0 /\ k.state ≠ 2 /\ vs = [] /\ m1 = mi) \/
  (k.state = 2 /\ k.moved = true /\ k.id ∈ mi /\ vs = [] /\ m1 = mi) \/
  (k.state = 2 /\ k.moved = true /\ k.id ∉ mi /\ M k.id = none /\ vs = [] /\ m1 = mi ++ [k.id]) \/
  (k.state = 2 /\ k.moved = true /\ k.id ∉ mi /\ ∃ k' v, M k.id = some k' /\ f k' (mi ++ [k.id]) = some (v, m1) /\ vs = [v]) \/
  ((k.state = 0 \/ (k.state = 2 /\ k.moved = false)) /\ ∃ v, f k mi = some (v, m1) /\ vs = [v]) := by
 have one : ∀ o : Option (T × List Idv), (o.bind fun r => (bkL f M [] r.2).map fun q => (r.1 :: q.1, q.2)) = some (vs, m1) -> ∃ v, o = some (v, m1) /\ vs = [v] := by
  intro o ho
  cases o with
  | none => cases ho
  | some p =>
   simp only [Option.bind_some, bkL, Option.map_some, Option.some.injEq, Prod.mk.injEq] at ho
   exact ⟨p.1, by rw [<- ho.2], ho.1.symm⟩
 rw [bkL] at h
 split at h
 ·rename_i hs
  simp only [bkL, Option.some.injEq, Prod.mk.injEq] at h
  exact .inl ⟨hs.1, hs.2, h.1.symm, h.2.symm⟩
 ·rename_i hs
  split at h
  ·rename_i h2
   split at h
   ·rename_i hm
    simp only [bkL, Option.some.injEq, Prod.mk.injEq] at h
    exact .inr (.inl ⟨h2.1, h2.2, hm, h.1.symm, h.2.symm⟩)
   ·rename_i hm
    split at h
    ·rename_i hM
     simp only [bkL, Option.some.injEq, Prod.mk.injEq] at h
     exact .inr (.inr (.inl ⟨h2.1, h2.2, hm, hM, h.1.symm, h.2.symm⟩))
    ·rename_i k' hM
     obtain ⟨v, h3, h4⟩ := one _ h
     exact .inr (.inr (.inr (.inl ⟨h2.1, h2.2, hm, k', v, hM, h3, h4⟩)))
  ·rename_i h2
   refine .inr (.inr (.inr (.inr ⟨?_, one _ h⟩)))
   by_cases h0 : k.state = 0
   ·exact .inl h0
   ·refine .inr ⟨Classical.byContradiction fun h3 => hs ⟨h0, h3⟩, ?_⟩
    have h3 : k.state = 2 := Classical.byContradiction fun h3 => hs ⟨h0, h3⟩
    cases hm : k.moved
    ·rfl
    ·exact absurd ⟨h3, hm⟩ h2
theorem z69 {m : List Idv} {i : Idv} (hn : m.Nodup) (hi : i ∉ m) : (m ++ [i]).Nodup := by
 rw [List.nodup_append]
 exact ⟨hn, by simp, fun a ha b hb => by rw [List.mem_singleton] at hb; subst hb; exact fun e => hi (e ▸ ha)⟩
theorem zmi {f : TT -> List Idv -> Option (T × List Idv)} {M : Idv -> Option TT} (hf : ∀ t m m' u, f t m = some (u, m') -> m.Nodup -> m'.Nodup) : ∀ (l : List TT) {m m' : List Idv} {us : List T}, bkL f M l m = some (us, m') -> m.Nodup -> m'.Nodup /\ us.length <= l.length
 | [], m, m', us, h, hn => by simp only [bkL, Option.some.injEq, Prod.mk.injEq] at h; rw [<- h.1, <- h.2]; exact ⟨hn, Nat.le_refl _⟩
 | k :: l, m, m', us, h, hn => by
  have h1 := z40 f M l [k] m
  rw [List.singleton_append, h] at h1
  cases h2 : bkL f M [k] m with
  | none => rw [h2] at h1; cases h1
  | some p =>
   obtain ⟨vs, m1⟩ := p
   rw [h2] at h1
   simp only [Option.bind_some] at h1
   cases h3 : bkL f M l m1 with
   | none => rw [h3] at h1; cases h1
   | some p =>
    obtain ⟨us2, m2⟩ := p
    rw [h3] at h1
    simp only [Option.map_some, Option.some.injEq, Prod.mk.injEq] at h1
    obtain ⟨rfl, rfl⟩ := h1
    have key : m1.Nodup /\ vs.length <= 1 := by
     rcases zun h2 with ⟨_, _, rfl, rfl⟩ | ⟨_, _, _, rfl, rfl⟩ | ⟨_, _, hm, _, rfl, rfl⟩ | ⟨_, _, hm, k', v, _, hq, rfl⟩ | ⟨_, v, hq, rfl⟩
     ·exact ⟨hn, by simp⟩
     ·exact ⟨hn, by simp⟩
     ·exact ⟨z69 hn hm, by simp⟩
     ·exact ⟨hf _ _ _ _ hq (z69 hn hm), by simp⟩
     ·exact ⟨hf _ _ _ _ hq hn, by simp⟩
    have := zmi hf l h3 key.1
    exact ⟨this.1, by rw [List.length_append, List.length_cons]; omega⟩
theorem zuo {M : Idv -> Option TT} : ∀ (n : Nat) (t : TT) (m m' : List Idv) (u : T), bkF M n t m = some (u, m') -> m.Nodup -> m'.Nodup
 | 0, _, _, _, _, h, _ => by cases h
 | n + 1, t, m, m', u, h, hn => by
  rw [bkF, Option.map_eq_some_iff] at h
  obtain ⟨⟨ks, m1⟩, hb, he⟩ := h
  simp only [Prod.mk.injEq] at he
  rw [<- he.2]
  exact (zmi (zuo n) t.kids hb hn).1
end Tr
theorem zup (a b : TT) : z16 (z0k a) 0 (z0k b) = z0k b := by rw [z1b, z1b]; rfl
set_option maxHeartbeats 16000000 in
theorem zuq (j k : Nat) (hjk : j ≠ k) (L : List (Idv × TT)) (hLn : (L.map (·.1)).Nodup) (hLs : ∀ p ∈ L, zry p.2 = true) : ∀ (n : Nat) (t : TT) (m m' : List Idv) (u : T), zry t = true -> m.Nodup -> bkF (zbk L) n t m = some (u, m') ->
  TC2 prog 34 [.agg [.mp j, .mp k], z2l t] j k (.map (mapI z2l L)) (.map (setI m)) (.map (setI m')) (z17 u)
 | 0, t, m, m', u, _, _, h => by cases h
 | n + 1, t, m, m', u, hs, hmn, hbk => by
  obtain ⟨h0, h00, h1, h2, h3, h4⟩ := (z9s t).1 hs
  rw [bkF, Option.map_eq_some_iff] at hbk
  obtain ⟨⟨ks, m1⟩, hb, he⟩ := hbk
  simp only [Prod.mk.injEq] at he
  obtain ⟨rfl, rfl⟩ := he
  have ih := fun t m m' u => zuq j k hjk L hLn hLs n t m m' u
  have b1 := z6x t.head h1 1
  have b2 := z6x t.words h2 1
  refine TC2_fin (i := 4) (z0b _) hjk (zyt _ _) fun H nx hj O hHj hHk => ?_
  have hq := z02 O
  have hq5 := z5e O
  have hr := z02 hj
  have hr5 := z5e hj
  have hkj : (k == j) = false := z1x (Ne.symm hjk)
  have hjk2 : (j == k) = false := z1x hjk
  obtain ⟨lab, hlab⟩ : ∃ lab, lab = if t.was = ByteArray.empty then t.label else t.was := ⟨_, rfl⟩
  refine (z2a [8000000, 3000011, 3000013, 3000015, 3000017, 5000018, 3000020, 5000021, 3000074, 3000075, 3000076, 4000077] func34 rfl (by decide +kernel) rfl ?_)
  show awp _ _ (Code.seq _ _) _ _
  rw [show Tryd.f34.results.toList = [.cell 4 27] from rfl]
  repeat' (first | refine nxt ?_ | ((first | refine z1h (N := 2) rfl fun K hK => ?_ | refine z5f (N := 2) rfl (by decide +kernel) fun K hK => ?_ | refine zqt (b1) ?_ | refine zqt (b2) ?_); (simp (disch := omega) only [go_sem, Nat.reduceBEq, Nat.reduceEqDiff, ↓reduceIte, reduceCtorEq, Nat.reduceAdd, Nat.reduceLeDiff, hq, z0s])) | (refine hK _ ?_; clear hK K))
  (refine z84 (fun st => st.t 2 = .ptr nx 0 /\ st.t 3 = .ptr (nx + 1) 0 /\ st.t 4 = .ptr (nx + 2) 0 /\ st.t 5 = .ptr (nx + 3) 0 /\ st.H (nx) = some (.box 74 [.mp j, .mp k]) /\ st.H (nx + 1) = some (.box 33 (z0k t)) /\ st.H (nx + 2) = some (.box 27 [.int .i64 0, .int .i64 0, .int .i64 0, .int .i64 0, .str ByteArray.empty, .nil, .nil, .nil]) /\ st.H (nx + 3) = some (.box 27 [.int .i64 t.id.act, .int .i64 t.id.item, .int .i64 t.id.n, .int .i64 t.kind, .str lab, z0s (z78 1 t.head), z0s (z78 1 t.words), .nil]) /\ st.H (j) = some (.map (mapI z2l L)) /\ st.H (k) = some (.map (setI m)) /\ st.nx = nx + 4 /\ (∀ id, id < nx -> id ≠ k -> st.H id = H id)) ?_ ?_); rotate_left; (rintro st ⟨p2, p3, p4, p5, pHnx, pHnx1, pHnx2, pHnx3, pHj, pHk, pnx, pp0⟩); rotate_left
  ·by_cases hw : t.was = ByteArray.empty
   ·rw [if_pos hw] at hlab
    subst hlab
    have hw2 : t.was = ⟨#[]⟩ := hw
    repeat' (first | ((refine zqh fun K hK => ?_); (simp (disch := omega) only [go_sem, Nat.reduceBEq, ↓reduceIte, reduceCtorEq, Nat.reduceAdd, hq, hw2])) | ((refine zqm _ rfl (fun hc => ?_) (fun hc => ?_)) <;> (first | (cases hc; done) | ((try simp only [] at hc); (try omega)))) | refine nxt ?_ | (refine hK _ ?_; clear hK K))
    (refine seqK_J ?_); (simp (disch := omega) only [go_sem, Nat.reduceBEq, true_and, hq, hr])
    exact ⟨rfl, hHj, hHk, fun id hid hne => by simp (disch := omega) only [z0a]⟩
   ·rw [if_neg hw] at hlab
    subst hlab
    have hw2 : ¬ t.was = ⟨#[]⟩ := hw
    repeat' (first | ((first | refine zqh fun K hK => ?_ | refine zqr fun K hK => ?_); (simp (disch := omega) only [go_sem, Nat.reduceBEq, ↓reduceIte, reduceCtorEq, Nat.reduceAdd, Nat.reduceLeDiff, Nat.reduceLT, hq, hw2])) | ((refine zqm _ rfl (fun hc => ?_) (fun hc => ?_)) <;> (first | (cases hc; done) | ((try simp only [] at hc); (try omega)))) | (refine hK _ ?_; clear hK K))
    (refine seqK_J ?_); (simp (disch := omega) only [go_sem, Nat.reduceBEq, true_and, hq, hr])
    exact ⟨rfl, hHj, hHk, fun id hid hne => by simp (disch := omega) only [z0a]⟩
  refine zqj ?_
  refine z3a fun K hK => ?_
  (simp (disch := omega) only [go_sem, Nat.reduceBEq, ↓reduceIte, reduceCtorEq, Nat.reduceAdd, p3, pHnx1])
  refine hK _ _ (z7j (b := nx + 3) (off := 7) (e := 27) 27 (by (simp (disch := omega) only [go_sem, pHnx3, pnx]); rfl) rfl) ?_
  clear hK K
  repeat' (refine zqa ?_)
  (refine z4g (fun U st => ∃ (i : Nat) (us : List T) (mi : List Idv), U = t.kids.length - i /\ st.t 2 = .ptr nx 0 /\ st.t 4 = .ptr (nx + 2) 0 /\ st.t 5 = .ptr (nx + 3) 0 /\ st.t 30 = z1z t.kids /\ st.t 31 = .int .i64 t.kids.length /\ st.t 32 = .int .i64 i /\ st.H (nx) = some (.box 74 [.mp j, .mp k]) /\ st.H (nx + 2) = some (.box 27 [.int .i64 0, .int .i64 0, .int .i64 0, .int .i64 0, .str ByteArray.empty, .nil, .nil, .nil]) /\ st.H (nx + 3) = some (.box 27 [.int .i64 t.id.act, .int .i64 t.id.item, .int .i64 t.id.n, .int .i64 t.kind, .str lab, z0s (z78 1 t.head), z0s (z78 1 t.words), .osl (nx + 4) us.length]) /\ st.H (nx + 4) = some (.row 27 us.length (us.flatMap z08)) /\ st.H (j) = some (.map (mapI z2l L)) /\ st.H (k) = some (.map (setI mi)) /\ (i <= t.kids.length) /\ (nx + 5 <= st.nx) /\ (bkL (bkF (zbk L) n) (zbk L) (t.kids.take i) m = some (us, mi)) /\ (mi.Nodup) /\ (us.length <= 2000000) /\ (∀ id, id < nx -> id ≠ k -> st.H id = H id)) ?_ ?_); rotate_left; (rintro U st ⟨i, us, mi, rfl, q2, q4, q5, q30, q31, q32, qHnx, qHnx2, qHnx3, qHnx4, qHj, qHk, qp0, qp1, qp2, qp3, qp4, qp5⟩); rotate_left
  ·(refine ⟨_, 0, [], m, rfl, ?_⟩); (simp (disch := omega) only [go_sem, Nat.reduceBEq, Nat.reduceLeDiff, p2, p4, p5, pHnx, pHnx2, pHnx3, pHj, pHk, pnx, true_and, Int.natCast_zero, List.flatMap_nil, z1z, hq, hr, hq5, hr5])
   exact ⟨Nat.le_refl _, rfl, hmn, fun id hid hne => by simp (disch := omega) only [z0a]; exact pp0 id hid hne⟩
  have hqs := z02 (show k < st.nx by omega)
  have hqs5 := z5e (show k < st.nx by omega)
  have hrs := z02 (show j < st.nx by omega)
  have hrs5 := z5e (show j < st.nx by omega)
  have hq0 := z02 (show nx < st.nx by omega)
  have hq2 := z02 (show nx + 2 < st.nx by omega)
  have hq3 := z02 (show nx + 3 < st.nx by omega)
  have hq4 := z02 (show nx + 4 < st.nx by omega)
  by_cases hi : i < t.kids.length
  ·obtain ⟨vs, m2, hv1, hv2⟩ := zys hi hb qp2
   have inv := zmi (zuo n) _ hv2 hmn
   have hvl : (us ++ vs).length <= 2000000 := by have := inv.2; rw [List.length_take] at this; omega
   have hks := h4 _ (List.getElem_mem hi)
   have hfk := zb5 t.kids[i].id mi
   rcases zun hv1 with ⟨e0, e2, rfl, rfl⟩ | ⟨e2, e5, hm, rfl, rfl⟩ | ⟨e2, e5, hm, hM, rfl, rfl⟩ | ⟨e2, e5, hm, k', v, hM, hf, rfl⟩ | ⟨e, v, hf, rfl⟩
   ·rw [List.append_nil] at hv2 hvl
    repeat' (first | refine nxt ?_ | ((first | refine zqh fun K hK => ?_ | refine zqr fun K hK => ?_); (simp (disch := omega) only [go_sem, Nat.reduceBEq, ↓reduceIte, reduceCtorEq, Nat.reduceAdd, Nat.reduceLeDiff, q30, q31, q32, z1z, e0, e2])) | (refine zqd _ rfl ?_ ?_ <;> intro hc <;> (first | (cases hc; done) | ((try simp only [z07] at hc); (try omega)))) | refine zqz ?_ | (refine hK _ ?_; clear hK K))
    (refine Exists.intro _ (And.intro ?_ ⟨i + 1, us, m2, rfl, ?_⟩)); rotate_left; (simp (disch := omega) only [go_sem, Nat.reduceBEq, Nat.reduceLeDiff, q2, q4, q5, q30, q31, q32, qHnx, qHnx2, qHnx3, qHnx4, qHj, qHk, true_and, Int.natCast_add, Int.natCast_one, hqs, hrs, hq0, hq2, hq3, hq4]); rotate_left
    ·omega
    ·exact ⟨by omega, by omega, hv2, inv.1, by (try simp only [List.length_append, List.length_cons, List.length_nil] at hvl); omega, fun id hid hne => by simp (disch := omega) only [z0a]; exact qp5 id hid hne⟩
   ·rw [List.append_nil] at hv2 hvl
    rw [if_pos hm] at hfk
    have hsv := zc8 qp3 hm
    by_cases hl : t.kids[i].id ∈ L.map (·.1)
    ·have hfj := z6m z2l L t.kids[i].id
     rw [if_pos hl] at hfj
     obtain ⟨k', hk1, hk2⟩ := zc4 (enc := z2l) hl
     rw [hk2, z68] at hfj
     unfold z4x cellsId at hfj
     repeat' (first | refine nxt ?_ | ((first | refine zqh fun K hK => ?_ | refine zqe (by decide +kernel) fun K hK => ?_ | refine zqr fun K hK => ?_); (simp (disch := omega) only [go_sem, Nat.reduceBEq, Nat.reduceEqDiff, ↓reduceIte, reduceCtorEq, Nat.reduceAdd, Nat.reduceLeDiff, Int.reduceEq, q2, q30, q31, q32, qHnx, qHj, qHk, hq, hqs, hrs, hq0, hjk2, z1z, e2, e5, hfk, hsv, hfj])) | (refine zqd _ rfl ?_ ?_ <;> intro hc <;> (first | (cases hc; done) | ((try simp only [z07] at hc); (try omega)))) | refine zqz ?_ | (refine hK _ ?_; clear hK K))
     (refine Exists.intro _ (And.intro ?_ ⟨i + 1, us, m2, rfl, ?_⟩)); rotate_left; (simp (disch := omega) only [go_sem, Nat.reduceBEq, Nat.reduceLeDiff, q2, q4, q5, q30, q31, q32, qHnx, qHnx2, qHnx3, qHnx4, qHj, qHk, true_and, Int.natCast_add, Int.natCast_one, hq, hq5, hqs, hrs, hq0, hq2, hq3, hq4, hjk2]); rotate_left
     ·omega
     ·exact ⟨by omega, by omega, hv2, inv.1, by (try simp only [List.length_append, List.length_cons, List.length_nil] at hvl); omega, fun id hid hne => by simp (disch := omega) only [z0a]; exact qp5 id hid hne⟩
    ·have hfj := z6m z2l L t.kids[i].id
     rw [if_neg hl] at hfj
     unfold z4x cellsId at hfj
     repeat' (first | refine nxt ?_ | ((first | refine zqh fun K hK => ?_ | refine zqe (by decide +kernel) fun K hK => ?_ | refine zqr fun K hK => ?_); (simp (disch := omega) only [go_sem, Nat.reduceBEq, Nat.reduceEqDiff, ↓reduceIte, reduceCtorEq, Nat.reduceAdd, Nat.reduceLeDiff, Int.reduceEq, q2, q30, q31, q32, qHnx, qHj, qHk, hq, hqs, hrs, hq0, hjk2, z1z, e2, e5, hfk, hsv, hfj])) | (refine zqd _ rfl ?_ ?_ <;> intro hc <;> (first | (cases hc; done) | ((try simp only [z07] at hc); (try omega)))) | refine zqz ?_ | (refine hK _ ?_; clear hK K))
     (refine Exists.intro _ (And.intro ?_ ⟨i + 1, us, m2, rfl, ?_⟩)); rotate_left; (simp (disch := omega) only [go_sem, Nat.reduceBEq, Nat.reduceLeDiff, q2, q4, q5, q30, q31, q32, qHnx, qHnx2, qHnx3, qHnx4, qHj, qHk, true_and, Int.natCast_add, Int.natCast_one, hq, hq5, hqs, hrs, hq0, hq2, hq3, hq4, hjk2]); rotate_left
     ·omega
     ·exact ⟨by omega, by omega, hv2, inv.1, by (try simp only [List.length_append, List.length_cons, List.length_nil] at hvl); omega, fun id hid hne => by simp (disch := omega) only [z0a]; exact qp5 id hid hne⟩
   ·rw [List.append_nil] at hv2 hvl
    rw [if_neg hm] at hfk
    have hsv := z7f mi t.kids[i].id
    have hfj := z6m z2l L t.kids[i].id
    rw [if_neg (zh4.1 hM)] at hfj
    unfold z4x cellsId at hfj
    repeat' (first | refine nxt ?_ | ((first | refine zqh fun K hK => ?_ | refine zqe (by decide +kernel) fun K hK => ?_ | refine zqr fun K hK => ?_); (simp (disch := omega) only [go_sem, Nat.reduceBEq, Nat.reduceEqDiff, ↓reduceIte, reduceCtorEq, Nat.reduceAdd, Nat.reduceLeDiff, Int.reduceEq, q2, q30, q31, q32, qHnx, qHj, qHk, hq, hqs, hrs, hq0, hjk2, z1z, e2, e5, hfk, hsv, hfj])) | (refine zqd _ rfl ?_ ?_ <;> intro hc <;> (first | (cases hc; done) | ((try simp only [z07] at hc); (try omega)))) | refine zqz ?_ | (refine hK _ ?_; clear hK K))
    (refine Exists.intro _ (And.intro ?_ ⟨i + 1, us, mi ++ [t.kids[i].id], rfl, ?_⟩)); rotate_left; (simp (disch := omega) only [go_sem, Nat.reduceBEq, Nat.reduceLeDiff, q2, q4, q5, q30, q31, q32, qHnx, qHnx2, qHnx3, qHnx4, qHj, qHk, true_and, Int.natCast_add, Int.natCast_one, hq, hq5, hqs, hrs, hq0, hq2, hq3, hq4, hjk2]); rotate_left
    ·omega
    ·exact ⟨by omega, by omega, hv2, inv.1, by (try simp only [List.length_append, List.length_cons, List.length_nil] at hvl); omega, fun id hid hne => by simp (disch := omega) only [z0a]; exact qp5 id hid hne⟩
   ·rw [if_neg hm] at hfk
    have hsv := z7f mi t.kids[i].id
    have hkL := zq9 hM
    have hmn1 := z69 qp3 hm
    have hfj := z6m z2l L t.kids[i].id
    rw [if_pos (List.mem_map.2 ⟨_, hkL, rfl⟩), z8s hLn hkL, z68] at hfj
    unfold z4x cellsId at hfj
    have hsp : z16 (z0k t.kids[i]) 0 (z0k k') = z0k k' := zup _ _
    have hsl : (z0k k').length = 11 := z31 _
    have hst : (z0k k').take 11 = z0k k' := List.take_of_length_le (by rw [z31]; omega)
    repeat' (first | refine nxt ?_ | ((first | refine zqh fun K hK => ?_ | refine zqe (by decide +kernel) fun K hK => ?_ | refine zqq (by decide +kernel) fun K hK => ?_); (simp (disch := omega) only [go_sem, Nat.reduceBEq, Nat.reduceEqDiff, ↓reduceIte, reduceCtorEq, Nat.reduceAdd, Nat.reduceLeDiff, Int.reduceEq, q2, q5, q30, q31, q32, qHnx, qHnx3, qHj, qHk, hq, hqs, hrs, hq0, hq3, hjk2, z1z, e2, e5, hfk, hsv, hfj, hsp, hsl, hst])) | (refine zqd _ rfl ?_ ?_ <;> intro hc <;> (first | (cases hc; done) | ((try simp only [z07] at hc); (try omega)))) | (refine hK _ ?_; clear hK K))
    have hin := ih k' (mi ++ [t.kids[i].id]) m2 v (hLs _ hkL) hmn1 hf
    rw [z68] at hin
    refine z5a (hin _ _ ?_ ?_ ?_ ?_) rfl rfl (z3s _ (o := .map (setI (mi ++ [t.kids[i].id]))) ?_ (by intro e cs h; cases h) (by intro e cs h; cases h)) ?_
    ·(simp (disch := omega) only [go_sem])
     all_goals omega
    ·(simp (disch := omega) only [go_sem])
     all_goals omega
    ·(simp (disch := omega) only [go_sem, qHj, hrs, hjk2])
    ·(simp (disch := omega) only [go_sem, qHk, hqs])
    ·(simp (disch := omega) only [go_sem, qHk, hqs])
    (try (simp (disch := omega) only [go_sem, Nat.reduceBEq, Nat.reduceEqDiff, ↓reduceIte, reduceCtorEq, Nat.reduceAdd, Nat.reduceMul, Nat.reduceLeDiff, Nat.reduceLT, q5, qHnx3, qHnx4, hq, hq5, hq3, hq4])); repeat' (first | ((refine zqr fun K hK => ?_); (simp (disch := omega) only [go_sem, Nat.reduceBEq, ↓reduceIte, q32])) | refine nxt ?_ | (refine hK _ ?_; clear hK K))
    (refine Exists.intro _ (And.intro ?_ ⟨i + 1, us ++ [v], m2, rfl, ?_⟩)); rotate_left; (simp (disch := omega) only [go_sem, Nat.reduceBEq, Nat.reduceLeDiff, q2, q4, q5, q30, q31, q32, qHnx, qHnx2, qHnx3, qHnx4, qHj, qHk, true_and, Int.natCast_add, Int.natCast_one, List.flatMap_append, List.flatMap_cons, List.flatMap_nil, List.append_nil, hq, hr, hq5, hr5, hqs, hrs, hq0, hq2, hq3, hq4, hjk2]); rotate_left
    ·omega
    ·exact ⟨by omega, by omega, hv2, inv.1, by (try simp only [List.length_append, List.length_cons, List.length_nil] at hvl); omega, fun id hid hne => by simp (disch := omega) only [z0a]; exact qp5 id hid hne⟩
   ·rcases e with e | ⟨e2, e5⟩
    ·have hmn1 := qp3
     repeat' (first | refine nxt ?_ | ((first | refine zqh fun K hK => ?_ | refine zqq (by decide +kernel) fun K hK => ?_); (simp (disch := omega) only [go_sem, Nat.reduceBEq, Nat.reduceEqDiff, ↓reduceIte, reduceCtorEq, Nat.reduceAdd, Nat.reduceLeDiff, Int.reduceEq, q2, q5, q30, q31, q32, qHnx, qHnx3, hq0, hq3, z1z, e])) | (refine zqd _ rfl ?_ ?_ <;> intro hc <;> (first | (cases hc; done) | ((try simp only [z07] at hc); (try omega)))) | (refine hK _ ?_; clear hK K))
     have hin := ih _ (mi) m2 v hks hmn1 hf
     rw [z68] at hin
     refine z5a (hin _ _ ?_ ?_ ?_ ?_) rfl rfl (z3s _ (o := .map (setI (mi))) ?_ (by intro e cs h; cases h) (by intro e cs h; cases h)) ?_
     ·(simp (disch := omega) only [go_sem])
      all_goals omega
     ·(simp (disch := omega) only [go_sem])
      all_goals omega
     ·(simp (disch := omega) only [go_sem, qHj, hrs])
     ·(simp (disch := omega) only [go_sem, qHk, hqs])
     ·(simp (disch := omega) only [go_sem, qHk, hqs])
     (try (simp (disch := omega) only [go_sem, Nat.reduceBEq, Nat.reduceEqDiff, ↓reduceIte, reduceCtorEq, Nat.reduceAdd, Nat.reduceMul, Nat.reduceLeDiff, Nat.reduceLT, q5, qHnx3, qHnx4, hq, hq5, hq3, hq4])); repeat' (first | ((refine zqr fun K hK => ?_); (simp (disch := omega) only [go_sem, Nat.reduceBEq, ↓reduceIte, q32])) | refine nxt ?_ | (refine hK _ ?_; clear hK K))
     (refine Exists.intro _ (And.intro ?_ ⟨i + 1, us ++ [v], m2, rfl, ?_⟩)); rotate_left; (simp (disch := omega) only [go_sem, Nat.reduceBEq, Nat.reduceLeDiff, q2, q4, q5, q30, q31, q32, qHnx, qHnx2, qHnx3, qHnx4, qHj, qHk, true_and, Int.natCast_add, Int.natCast_one, List.flatMap_append, List.flatMap_cons, List.flatMap_nil, List.append_nil, hq, hr, hq5, hr5, hqs, hrs, hq0, hq2, hq3, hq4, hjk2]); rotate_left
     ·omega
     ·exact ⟨by omega, by omega, hv2, inv.1, by (try simp only [List.length_append, List.length_cons, List.length_nil] at hvl); omega, fun id hid hne => by simp (disch := omega) only [z0a]; exact qp5 id hid hne⟩
    ·have hmn1 := qp3
     repeat' (first | refine nxt ?_ | ((first | refine zqh fun K hK => ?_ | refine zqq (by decide +kernel) fun K hK => ?_); (simp (disch := omega) only [go_sem, Nat.reduceBEq, Nat.reduceEqDiff, ↓reduceIte, reduceCtorEq, Nat.reduceAdd, Nat.reduceLeDiff, Int.reduceEq, q2, q5, q30, q31, q32, qHnx, qHnx3, hq0, hq3, z1z, e2, e5])) | (refine zqd _ rfl ?_ ?_ <;> intro hc <;> (first | (cases hc; done) | ((try simp only [z07] at hc); (try omega)))) | (refine hK _ ?_; clear hK K))
     have hin := ih _ (mi) m2 v hks hmn1 hf
     rw [z68] at hin
     refine z5a (hin _ _ ?_ ?_ ?_ ?_) rfl rfl (z3s _ (o := .map (setI (mi))) ?_ (by intro e cs h; cases h) (by intro e cs h; cases h)) ?_
     ·(simp (disch := omega) only [go_sem])
      all_goals omega
     ·(simp (disch := omega) only [go_sem])
      all_goals omega
     ·(simp (disch := omega) only [go_sem, qHj, hrs])
     ·(simp (disch := omega) only [go_sem, qHk, hqs])
     ·(simp (disch := omega) only [go_sem, qHk, hqs])
     (try (simp (disch := omega) only [go_sem, Nat.reduceBEq, Nat.reduceEqDiff, ↓reduceIte, reduceCtorEq, Nat.reduceAdd, Nat.reduceMul, Nat.reduceLeDiff, Nat.reduceLT, q5, qHnx3, qHnx4, hq, hq5, hq3, hq4])); repeat' (first | ((refine zqr fun K hK => ?_); (simp (disch := omega) only [go_sem, Nat.reduceBEq, ↓reduceIte, q32])) | refine nxt ?_ | (refine hK _ ?_; clear hK K))
     (refine Exists.intro _ (And.intro ?_ ⟨i + 1, us ++ [v], m2, rfl, ?_⟩)); rotate_left; (simp (disch := omega) only [go_sem, Nat.reduceBEq, Nat.reduceLeDiff, q2, q4, q5, q30, q31, q32, qHnx, qHnx2, qHnx3, qHnx4, qHj, qHk, true_and, Int.natCast_add, Int.natCast_one, List.flatMap_append, List.flatMap_cons, List.flatMap_nil, List.append_nil, hq, hr, hq5, hr5, hqs, hrs, hq0, hq2, hq3, hq4, hjk2]); rotate_left
     ·omega
     ·exact ⟨by omega, by omega, hv2, inv.1, by (try simp only [List.length_append, List.length_cons, List.length_nil] at hvl); omega, fun id hid hne => by simp (disch := omega) only [z0a]; exact qp5 id hid hne⟩
  ·repeat' (first | ((refine zqh fun K hK => ?_); (simp (disch := omega) only [go_sem, Nat.reduceBEq, ↓reduceIte, Nat.reduceAdd, Nat.reduceLeDiff, q4, q5, q31, q32, qHnx2, qHnx3])) | (refine zqd _ rfl ?_ ?_ <;> intro hc <;> (((try simp only [z07] at hc); (try omega)))) | refine nxt ?_ | refine zqz ?_ | refine zqu (by (simp (disch := omega) only [go_sem, Nat.reduceBEq, ↓reduceIte, Nat.reduceAdd, Nat.reduceLeDiff, q4, qHnx2]); rfl) rfl ?_ | (refine hK _ ?_; clear hK K))
   have hta : t.kids.take i = t.kids := List.take_of_length_le (by omega)
   rw [hta, hb] at qp2
   simp only [Option.some.injEq, Prod.mk.injEq] at qp2
   obtain ⟨rfl, rfl⟩ := qp2
   (simp (disch := omega) only [go_sem, qHk, hq])
   refine ⟨?_, fun id hid hne => by simp (disch := omega) only [z0a]; exact qp5 id hid hne⟩
   rw [bkO, z0r, <- hlab]
   refine z64 (nx := 0) (z8q (k := 3) (by simp [pureD.pureL, pureD]) ?_)
   refine z06 (z04 2 rfl) (z06 (z04 2 rfl) (z06 (z04 2 rfl) (z06 (z04 2 rfl) (z06 (z04 2 rfl) (z06 (z04 2 (z0q _)) (z06 (z04 2 (z0q _)) (z06 ?_ z3g)))))))
   refine z1a (f := z08) (l := ks) 1 ?_ z9r zg4 z2u z29
   unfold hiH
   first | rw [if_neg (by omega), z27 _ (by omega)] | rw [if_pos (by omega), z27 _ (by omega)]
   exact qHnx4
namespace Tr
theorem zp5 (l : List (Idv × TT)) (k : TT) (i : Idv) : zbk (zav l k) i = (zbk l i).or (if decide (k.state = 1) && (k.moved && decide (k.id = i)) then some k else none) := by
 unfold zav
 split
 ·rename_i h
  unfold zbk
  rw [List.find?_append, Option.map_or]
  congr 1
  rw [List.find?_cons, List.find?_nil]
  by_cases O : k.id = i
  ·simp [O, h.2.1, h.2.2]
  ·simp [O]
 ·rename_i h
  split
  ·rename_i h2
   simp only [Bool.and_eq_true, decide_eq_true_eq] at h2
   have h3 : k.id ∈ l.map (·.1) := Classical.byContradiction fun h3 => h ⟨h3, h2.1, h2.2.1⟩
   cases h4 : zbk l i with
   | none => rw [zh4] at h4; rw [h2.2.2] at h3; exact absurd h3 h4
   | some x => rfl
  ·rw [Option.or_none]
theorem zeg (i : Idv) : ∀ (ks : List TT) (l : List (Idv × TT)), zbk (ks.foldl zav l) i = (zbk l i).or (ks.find? fun k => decide (k.state = 1) && (k.moved && decide (k.id = i)))
 | [], l => by simp
 | k :: ks, l => by
  rw [List.foldl_cons, zeg i ks, zp5, Option.or_assoc, List.find?_cons]
  congr 1
  split
  ·rename_i h; simp [h]
  ·rename_i h; simp [h]
theorem zp6 (t : TT) : zbk (zas t []) = movM t := by
 funext i
 unfold zas movM
 rw [zeg]
 rfl
theorem zp7 {l : List (Idv × TT)} (k : TT) (h : (l.map (·.1)).Nodup) : ((zav l k).map (·.1)).Nodup := by
 unfold zav
 split
 ·rename_i h2
  rw [List.map_append]
  exact z69 h h2.1
 ·exact h
theorem zp8 (t : TT) : ((zas t []).map (·.1)).Nodup := by
 have key : ∀ (ks : List TT) (l : List (Idv × TT)), (l.map (·.1)).Nodup -> ((ks.foldl zav l).map (·.1)).Nodup := by
  intro ks
  induction ks with
  | nil => exact fun l h => h
  | cons k ks ih => exact fun l h => ih _ (zp7 k h)
 exact key _ [] (by simp)
theorem zx5 (t : TT) : ∀ p ∈ zas t [], p.2 ∈ z55 t := by
 have key : ∀ (ks : List TT) (l : List (Idv × TT)), ∀ p ∈ ks.foldl zav l, p ∈ l \/ p.2 ∈ ks := by
  intro ks
  induction ks with
  | nil => exact fun l p hp => .inl hp
  | cons k ks ih =>
   intro l p hp
   rcases ih _ p hp with h | h
   ·unfold zav at h
    split at h
    ·rw [List.mem_append, List.mem_singleton] at h
     rcases h with h | rfl
     ·exact .inl h
     ·exact .inr (by simp)
    ·exact .inl h
   ·exact .inr (by simp [h])
 intro p hp
 rcases key _ [] p hp with h | h
 ·cases h
 ·exact h
theorem zp9 : ∀ t : TT, zry t = true -> ∀ k ∈ z55 t, zry k = true := by
 refine zty fun t ih hs k O => ?_
 have h := (z9s t).1 hs
 rw [z5p, List.mem_cons, List.mem_flatten] at O
 rcases O with rfl | ⟨l, hl, O⟩
 ·exact hs
 ·obtain ⟨c, hc, rfl⟩ := List.mem_map.1 hl
  exact ih c hc (h.2.2.2.2.2 c hc) k O
end Tr
namespace Abs
def zj8 : List Oper -> Nat -> Option Oper
 | [], _ => none
 | o :: _, 0 => some o
 | _ :: l, k + 1 => zj8 l k
def z6y (opl : List Oper) : List Nat -> List Oper
 | [] => []
 | k :: l => match zj8 opl k with
  | some o => o :: z6y opl l
  | none => z6y opl l
theorem z3r {P : Program} {own : List Nat} {K : St -> Prop} {opl : List Oper} {l : List Nat} {st : St} (h : z2j P own (opl.map (·.dst)) (z6y opl l) K st) (hl : l.map (fun k => opl.toArray[k]?) = (z6y opl l).map some) : zdk P own opl.toArray K (.run l) st := z002 hl h
theorem z79 {P : Program} {own : List Nat} {K : St -> Prop} {opl : List Oper} {l : List Nat} {a b : OT} {st : St} (h : z2j P own (opl.map (·.dst)) (z6y opl l) (fun st => zdk P own opl.toArray K a st /\ zdk P own opl.toArray K b st) st) (hl : l.map (fun k => opl.toArray[k]?) = (z6y opl l).map some) : zdk P own opl.toArray K (.fork l a b) st := zwh hl h
end Abs
theorem zqv {K : St -> Prop} {Q : Exit -> St -> Prop} {st : St} (h : K st) : zlo K Q .normal st := h
set_option maxHeartbeats 16000000 in
theorem pc_Old (n : Nat) (t : TT) (hs : zry t = true) (u : T) (m : List Idv) (h : bkF (movM t) n t [] = some (u, m)) : PC prog 17 [z2l t] (z17 u) := by
 rw [<- zp6] at h
 have c1 : ∀ k, TC prog 33 [.agg (z0k t), .mp k] k (.map []) (.map (mapI z2l (zas t []))) (.mp k) := fun k => zzy k t hs []
 have c2 : ∀ j k, j ≠ k -> TC2 prog 34 [.agg [.mp j, .mp k], .agg (z0k t)] j k (.map (mapI z2l (zas t []))) (.map []) (.map (setI m)) (.agg (z08 u)) := fun j k hjk => zuq j k hjk (zas t []) (zp8 t) (fun p hp => zp9 t hs _ (zx5 t p hp)) n t [] m u hs (by simp) h
 refine z2q 4 (by simp only [pureD.pureL, z2m, Bool.and_self]) (z0b _) ?_
 refine z8x func17 rfl (by decide +kernel) (by simp [ntmps17]) ?_
 rw [show Tryd.f17.results.toList = [.cell 2 27] from rfl]
 refine Sem.seq (Sem.walk (own := []) z4z (by decide +kernel) ?_)
 repeat' (first | ((refine zqr fun K hK => ?_); (simp (disch := omega) only [go_sem, Nat.reduceAdd])) | refine zqv ?_ | (refine hK _ ?_; clear hK K))
 refine Sem.seq (zp1 (own := [3000003, 3000008, 4000005, 4000009]) z4z (by decide +kernel) [(0, 1), (1, 0), (0, 3), (3, 0), (0, 5), (5, 0), (5, 1), (1, 5), (5, 2), (2, 5), (5, 3), (3, 5), (4, 5), (5, 4)] (.fork [0, 5] (.run [3, 1, 2, 4, 6, 7]) (.fork [1] (.run [2, 3, 4, 6, 7]) (.run [3, 2, 4, 6, 7]))) (by decide +kernel) (by decide +kernel) ?_)
 refine z79 ?_ rfl
 (simp (disch := omega) only [go_sem, Nat.reduceBEq, Nat.reduceEqDiff, ↓reduceIte, Nat.reduceAdd, Nat.reduceLeDiff, z6y, zj8, List.map_cons, List.map_nil])
 refine ⟨?_, ?_⟩
 ·refine z3r ?_ rfl
  (simp (disch := omega) only [go_sem, Nat.reduceBEq, Nat.reduceAdd, z6y, zj8, List.map_cons, List.map_nil])
  refine z5a (c1 3 _ _ ?_ ?_) rfl rfl (z3s _ (o := .map []) ?_ (by intro e cs h; cases h) (by intro e cs h; cases h)) ?_
  ·(simp (disch := omega) only [go_sem, Nat.reduceLT])
  ·(simp (disch := omega) only [go_sem, Nat.reduceBEq])
  ·(simp (disch := omega) only [go_sem, Nat.reduceBEq])
  (simp (disch := omega) only [go_sem, Nat.reduceBEq, ↓reduceIte, Nat.reduceAdd, Nat.reduceLeDiff])
  refine z5a (c2 3 2 (by decide) _ _ ?_ ?_ ?_ ?_) rfl rfl (z3s _ (o := .map []) ?_ (by intro e cs h; cases h) (by intro e cs h; cases h)) ?_
  ·(simp (disch := omega) only [go_sem, Nat.reduceLT])
  ·(simp (disch := omega) only [go_sem])
  ·(simp (disch := omega) only [go_sem, Nat.reduceBEq])
  ·(simp (disch := omega) only [go_sem, Nat.reduceBEq])
  ·(simp (disch := omega) only [go_sem, Nat.reduceBEq])
  (simp (disch := omega) only [go_sem, Nat.reduceBEq, Nat.reduceEqDiff, ↓reduceIte, Nat.reduceAdd, Nat.reduceLeDiff])
  refine zqv (Sem.walk (own := []) z4z (by decide +kernel) ?_)
  repeat' (first | refine zqn ?_ | refine zqu (by (simp (disch := omega) only [go_sem, Nat.reduceBEq, ↓reduceIte, Nat.reduceLeDiff]); rfl) rfl ?_)
  exact z1r (z0b _) (Le.refl _)
 ·refine z79 ?_ rfl
  (simp (disch := omega) only [go_sem, Nat.reduceAdd, z6y, zj8, List.map_cons, List.map_nil])
  refine ⟨?_, ?_⟩
  ·refine z3r ?_ rfl
   (simp (disch := omega) only [go_sem, Nat.reduceBEq, z6y, zj8, List.map_cons, List.map_nil])
   refine z5a (c1 2 _ _ ?_ ?_) rfl rfl (z3s _ (o := .map []) ?_ (by intro e cs h; cases h) (by intro e cs h; cases h)) ?_
   ·(simp (disch := omega) only [go_sem, Nat.reduceLT])
   ·(simp (disch := omega) only [go_sem, Nat.reduceBEq])
   ·(simp (disch := omega) only [go_sem, Nat.reduceBEq])
   (simp (disch := omega) only [go_sem, Nat.reduceBEq, ↓reduceIte, Nat.reduceAdd, Nat.reduceLeDiff])
   refine z5a (c2 2 3 (by decide) _ _ ?_ ?_ ?_ ?_) rfl rfl (z3s _ (o := .map []) ?_ (by intro e cs h; cases h) (by intro e cs h; cases h)) ?_
   ·(simp (disch := omega) only [go_sem])
   ·(simp (disch := omega) only [go_sem, Nat.reduceLT])
   ·(simp (disch := omega) only [go_sem, Nat.reduceBEq])
   ·(simp (disch := omega) only [go_sem, Nat.reduceBEq])
   ·(simp (disch := omega) only [go_sem, Nat.reduceBEq])
   (simp (disch := omega) only [go_sem, Nat.reduceBEq, Nat.reduceEqDiff, ↓reduceIte, Nat.reduceAdd, Nat.reduceLeDiff])
   refine zqv (Sem.walk (own := []) z4z (by decide +kernel) ?_)
   repeat' (first | refine zqn ?_ | refine zqu (by (simp (disch := omega) only [go_sem, Nat.reduceBEq, ↓reduceIte, Nat.reduceLeDiff]); rfl) rfl ?_)
   exact z1r (z0b _) (Le.refl _)
  ·refine z3r ?_ rfl
   (simp (disch := omega) only [go_sem, Nat.reduceBEq, Nat.reduceAdd, z6y, zj8, List.map_cons, List.map_nil])
   refine z5a (c1 2 _ _ ?_ ?_) rfl rfl (z3s _ (o := .map []) ?_ (by intro e cs h; cases h) (by intro e cs h; cases h)) ?_
   ·(simp (disch := omega) only [go_sem])
   ·(simp (disch := omega) only [go_sem, Nat.reduceBEq])
   ·(simp (disch := omega) only [go_sem, Nat.reduceBEq])
   (simp (disch := omega) only [go_sem, Nat.reduceBEq, ↓reduceIte, Nat.reduceAdd, Nat.reduceLeDiff])
   refine z5a (c2 2 3 (by decide) _ _ ?_ ?_ ?_ ?_) rfl rfl (z3s _ (o := .map []) ?_ (by intro e cs h; cases h) (by intro e cs h; cases h)) ?_
   ·(simp (disch := omega) only [go_sem])
   ·(simp (disch := omega) only [go_sem, Nat.reduceLT])
   ·(simp (disch := omega) only [go_sem, Nat.reduceBEq])
   ·(simp (disch := omega) only [go_sem, Nat.reduceBEq])
   ·(simp (disch := omega) only [go_sem, Nat.reduceBEq])
   (simp (disch := omega) only [go_sem, Nat.reduceBEq, Nat.reduceEqDiff, ↓reduceIte, Nat.reduceAdd, Nat.reduceLeDiff])
   refine zqv (Sem.walk (own := []) z4z (by decide +kernel) ?_)
   repeat' (first | refine zqn ?_ | refine zqu (by (simp (disch := omega) only [go_sem, Nat.reduceBEq, ↓reduceIte, Nat.reduceLeDiff]); rfl) rfl ?_)
   exact z1r (z0b _) (Le.refl _)
theorem zef {k nx : Nat} (h : k < nx) : (nx + 5 == nx) = false /\ (nx + 5 == nx + 1) = false /\ (nx + 5 == nx + 2) = false /\ (nx + 5 == nx + 3) = false /\ (nx + 5 == nx + 4) = false /\ (nx == nx + 5) = false /\ (nx + 1 == nx + 5) = false /\ (nx + 2 == nx + 5) = false /\ (nx + 3 == nx + 5) = false /\ (nx + 4 == nx + 5) = false /\ (k == nx + 5) = false /\ (nx + 5 == k) = false :=
 ⟨z1x (by omega), z1x (by omega), z1x (by omega), z1x (by omega), z1x (by omega), z1x (by omega), z1x (by omega), z1x (by omega), z1x (by omega), z1x (by omega), z1x (by omega), z1x (by omega)⟩
namespace Tr
theorem zwe {a : List ByteArray} : ∀ (l : List (Nat × Nat)) (i k : Nat), zli a [] l i k -> l = []
 | [], _, _, _ => rfl
 | (x, y) :: l, i, k, h => by
  obtain ⟨q1, q2, q3, q4, _⟩ := h
  exact absurd q4 (Nat.not_lt_zero _)
theorem zhm (a : List ByteArray) : z37 a [] = a.map (stW 2) := by
 unfold z37
 rw [zwe _ _ _ (z4p a [])]
 simp [wov]
def zcw (t : T) : HObj := .map (mapI z17 ((nodesT t).map unP))
end Tr
theorem zoy (B : T) (i : Idv) : (i ∈ idsT B /\ z23 i B = true /\ ∃ n v, z3m prog 23 (.agg [.int .i64 i.act, .int .i64 i.item, .int .i64 i.n]) (mapI z17 ((nodesT B).map unP)) = some (some (n, .agg (z08 v)))) \/
  (i ∉ idsT B /\ z23 i B = false /\ z3m prog 23 (.agg [.int .i64 i.act, .int .i64 i.item, .int .i64 i.n]) (mapI z17 ((nodesT B).map unP)) = some none) := by
 have O : ((nodesT B).map unP).map (·.1) = idsT B := by rw [List.map_map]; rfl
 have hg := z6m z17 ((nodesT B).map unP) i
 rw [O] at hg
 by_cases h : i ∈ idsT B
 ·obtain ⟨v, _, hv⟩ := zc4 (enc := z17) (l := (nodesT B).map unP) (k := i) (by rw [O]; exact h)
  rw [if_pos h, hv] at hg
  exact .inl ⟨h, by rw [z15, decide_eq_true h], _, v, hg⟩
 ·rw [if_neg h] at hg
  exact .inr ⟨h, by rw [z15, decide_eq_false h], hg⟩
set_option maxHeartbeats 16000000 in
theorem rc_gone (B : T) (j0 j j2 : Nat) : ∀ u : T, szB u = true -> ∀ H nx, j < nx -> H j = some (zcw B) -> RC prog 47 [.agg [.mp j0, .mp j, .mp j2], z17 u] H nx (z2l (z32 B u)) := by
 refine z4f fun u ih hs H nx hj hHj => ?_
 obtain ⟨h0, h1, g1, h2, g2, h3, h4⟩ := (z2n u).1 hs
 have c1 : PC prog 43 [z0s u.head, .nil] (z1s ((txt u.head).map (stW 2))) := by
  have h := z9h u.head [] h1 (by simp)
  rw [show txt [] = [] from rfl, zhm] at h
  exact PC.le h (by simp only [pureD.pureL, pureD, z0q, Bool.and_self]) ⟨Le.refl _, Le.nil 4, trivial⟩
 have c2 : PC prog 43 [z0s u.words, .nil] (z1s ((txt u.words).map (stW 2))) := by
  have h := z9h u.words [] h2 (by simp)
  rw [show txt [] = [] from rfl, zhm] at h
  exact PC.le h (by simp only [pureD.pureL, pureD, z0q, Bool.and_self]) ⟨Le.refl _, Le.nil 4, trivial⟩
 unfold z1s at c1 c2
 refine zp3 (k := 4) (z2m _) ?_
 have hr := z02 hj
 have hr5 := z5e hj
 have hr6 := zef hj
 unfold zcw at hHj
 refine (z2a [8000000, 3000023, 3000025, 3000027, 3000029, 5000030, 3000032, 5000033, 3000043, 3000044, 3000045] func47 rfl (by decide +kernel) rfl ?_)
 show awp _ _ (Code.seq _ _) _ _
 rw [show Tryd.f47.results.toList = [.cell 4 33] from rfl]
 rw [z6j]
 rcases zoy B u.id with ⟨hm, hh, n, v, hf⟩ | ⟨hm, hh, hf⟩
 ·rw [if_pos hh]
  repeat' (first | refine zqj ?_ | ((refine zqh fun K hK => ?_); (simp (disch := omega) only [go_sem, Nat.reduceBEq, ↓reduceIte, reduceCtorEq, Nat.reduceAdd, Nat.reduceLeDiff, hr, hHj, hf])) | (refine zqd _ rfl ?_ ?_ <;> intro hc <;> (first | (cases hc; done) | ((try simp only [] at hc); (try omega)))) | refine zqg ?_ | refine zqu (by (simp (disch := omega) only [go_sem, Nat.reduceBEq, ↓reduceIte, Nat.reduceAdd, Nat.reduceLeDiff, hr]); rfl) rfl ?_ | (refine hK _ ?_; clear hK K))
  (simp (disch := omega) only [go_sem])
  refine ⟨z1r (nx := 0) rfl ?_, fun id hid => by simp (disch := omega) only [z0a]⟩
  rw [z1b]
  exact Le.agg ⟨Le.refl _, Le.refl _, Le.refl _, Le.refl _, Le.refl _, Le.refl _, Le.refl _, Le.refl _, Le.nil 2, Le.nil 2, Le.nil 11, trivial⟩
 ·rw [hh, if_neg (by decide)]
  repeat' (first | refine zqj ?_ | ((first | refine z1h (N := 5) rfl fun K hK => ?_ | refine z5f (N := 5) rfl (by decide +kernel) fun K hK => ?_ | refine zqt (c1) ?_ | refine zqt (c2) ?_); (simp (disch := omega) only [go_sem, Nat.reduceBEq, Nat.reduceEqDiff, ↓reduceIte, reduceCtorEq, Nat.reduceAdd, Nat.reduceLeDiff, hr, hr5, hHj, hf, z0s])) | (refine zqd _ rfl ?_ ?_ <;> intro hc <;> (first | (cases hc; done) | ((try simp only [] at hc); (try omega)))) | refine zqb ?_ | (refine hK _ ?_; clear hK K))
  refine z3a fun K hK => ?_
  (simp (disch := omega) only [go_sem, Nat.reduceBEq, ↓reduceIte, reduceCtorEq, Nat.reduceAdd, hr, hr5, z0m])
  refine hK _ _ (z7j (b := nx + 4) (off := 10) (e := 33) 33 (by (simp (disch := omega) only [go_sem, hr5]); rfl) rfl) ?_
  clear hK K
  repeat' (refine zqa ?_)
  (refine z4g (fun U st => ∃ (i : _), U = u.kids.length - i /\ st.t 2 = .ptr nx 0 /\ st.t 4 = .ptr (nx + 2) 0 /\ st.t 7 = .ptr (nx + 4) 0 /\ st.t 36 = z0m u.kids /\ st.t 37 = .int .i64 u.kids.length /\ st.t 38 = .int .i64 i /\ st.H (nx) = some (.box 57 [.mp j0, .mp j, .mp j2]) /\ st.H (nx + 2) = some (.box 33 [.int .i64 0, .int .i64 0, .int .i64 0, .int .i64 0, .int .i64 0, .str ByteArray.empty, .str ByteArray.empty, .bool false, .nil, .nil, .nil]) /\ st.H (nx + 4) = some (.box 33 [.int .i64 2, .int .i64 u.kind, .int .i64 u.id.act, .int .i64 u.id.item, .int .i64 u.id.n, .str u.label, .str ByteArray.empty, .bool false, z1s ((txt u.head).map (stW 2)), z1s ((txt u.words).map (stW 2)), .osl (nx + 5) i]) /\ st.H (nx + 5) = some (.row 33 i (((u.kids.take i).map (z32 B)).flatMap z0k)) /\ st.H (j) = some (.map (mapI z17 ((nodesT B).map unP))) /\ (i <= u.kids.length) /\ (nx + 6 <= st.nx) /\ (∀ id, id < nx -> st.H id = H id)) ?_ ?_); rotate_left; (rintro U st ⟨i, rfl, q2, q4, q7, q36, q37, q38, qHnx, qHnx2, qHnx4, qHnx5, qHj, qp0, qp1, qp2⟩); rotate_left
  ·(refine ⟨_, 0, rfl, ?_⟩); (simp (disch := omega) only [go_sem, Nat.reduceBEq, Nat.reduceLeDiff, true_and, Int.natCast_zero, List.flatMap_nil, List.map_nil, z0m, z1s, hr, hr5, hr6])
   exact ⟨hHj, Nat.le_refl _, fun id hid => by simp (disch := omega) only [z0a]⟩
  have hrs := z02 (show j < st.nx by omega)
  have hq0 := z02 (show nx < st.nx by omega)
  have hq2 := z02 (show nx + 2 < st.nx by omega)
  have hq4 := z02 (show nx + 4 < st.nx by omega)
  have hq5 := z02 (show nx + 5 < st.nx by omega)
  by_cases hi : i < u.kids.length
  ·have hin := fun H nx => ih u.kids[i] (List.getElem_mem hi) (h4 _ (List.getElem_mem hi)) H nx
   unfold zcw at hin
   repeat' (first | ((first | refine zqh fun K hK => ?_ | refine zqq (by decide +kernel) fun K hK => ?_ | ((refine ziy (hin _ _ ?_ ?_) rfl ?_); (focus (((simp (disch := omega) only [go_sem]); done))); (focus ((simp (disch := omega) only [go_sem, qHj, hrs]); done)))); (simp (disch := omega) only [go_sem, Nat.reduceBEq, Nat.reduceEqDiff, ↓reduceIte, reduceCtorEq, Nat.reduceAdd, Nat.reduceMul, Nat.reduceLeDiff, Nat.reduceLT, q2, q7, q36, q37, q38, qHnx, qHnx4, qHnx5, hr6, hq0, hq4, hq5, z0m])) | (refine zqd _ rfl ?_ ?_ <;> intro hc <;> (((try simp only [z07] at hc); (try omega)))) | refine zqa ?_ | refine zqb ?_ | refine zqv ?_ | refine zqy ?_ | (refine hK _ ?_; clear hK K))
   refine ⟨_, SealTo.refl _, ?_⟩
   repeat' (first | ((refine zqr fun K hK => ?_); (simp (disch := omega) only [go_sem, Nat.reduceBEq, ↓reduceIte, q38])) | (refine hK _ ?_; clear hK K))
   (refine Exists.intro _ (And.intro ?_ ⟨i + 1, rfl, ?_⟩)); rotate_left; (simp (disch := omega) only [go_sem, Nat.reduceBEq, Nat.reduceLeDiff, q2, q4, q7, q36, q37, q38, qHnx, qHnx2, qHnx4, qHnx5, qHj, true_and, Int.natCast_add, Int.natCast_one, List.flatMap_append, List.flatMap_cons, List.flatMap_nil, List.map_append, List.map_cons, List.map_nil, List.append_nil, hr5, hr6, hrs, hq0, hq2, hq4, hq5, List.take_succ_eq_append_getElem hi]); rotate_left
   ·omega
   ·exact ⟨by omega, by omega, fun id hid => by simp (disch := omega) only [z0a]; exact qp2 id hid⟩
  ·repeat' (first | ((refine zqh fun K hK => ?_); (simp (disch := omega) only [go_sem, ↓reduceIte, q37, q38])) | (refine zqd _ rfl ?_ ?_ <;> intro hc <;> (((try simp only [z07] at hc); (try omega)))) | refine zqc ?_ | refine zqv ?_ | refine zqz ?_ | refine zqp ?_ | (refine hK _ ?_; clear hK K))
   refine ⟨_, SealTo.refl _, ?_⟩
   repeat' (first | ((refine zqh fun K hK => ?_); (simp (disch := omega) only [go_sem, Nat.reduceBEq, ↓reduceIte, Nat.reduceAdd, Nat.reduceLeDiff, q4, q7, qHnx2, qHnx4])) | refine zqn ?_ | refine zqu (by (simp (disch := omega) only [go_sem, Nat.reduceBEq, ↓reduceIte, Nat.reduceAdd, Nat.reduceLeDiff, q4, qHnx2]); rfl) rfl ?_ | (refine hK _ ?_; clear hK K))
   have hie : i = (u.kids.map (z32 B)).length := by rw [List.length_map]; omega
   have hta : u.kids.take i = u.kids := List.take_of_length_le (by omega)
   rw [hta] at qHnx5
   (simp (disch := omega) only [go_sem])
   refine ⟨?_, fun id hid => by simp (disch := omega) only [z0a]; exact qp2 id hid⟩
   rw [zag, z1b]
   refine z64 (nx := 0) (z8q (k := 3) (by simp [pureD.pureL, pureD]) ?_)
   refine z06 (z04 2 rfl) (z06 (z04 2 rfl) (z06 (z04 2 rfl) (z06 (z04 2 rfl) (z06 (z04 2 rfl) (z06 (z04 2 rfl) (z06 (z04 2 rfl) (z06 (z04 2 rfl) (z06 (z04 2 (z3w _)) (z06 (z04 2 (z3w _)) (z06 ?_ z3g))))))))))
   rw [hie]
   refine z1a (f := z0k) (l := u.kids.map (z32 B)) 1 ?_ zop zw3 z31 z6n
   unfold hiH
   rw [if_pos (by omega), z27 _ (by omega), <- hie]
   exact qHnx5
namespace Tr
structure Plc where
 par : Idv
 pos : Int
 unit : T
def plcF (t : T) (l : List (List (Idv × Plc))) : List (Idv × Plc) := (t.kids.zip l).zipIdx.flatMap fun q => (q.1.1.id, ⟨t.id, (q.2 : Int), q.1.1⟩) :: q.1.2
def zwv (t : T) : List (Idv × Plc) := zeb plcF t
def zo8 (t : T) (i : Nat) : List (Idv × Plc) := ((t.kids.take i).zipIdx).flatMap fun q => (q.1.id, (⟨t.id, (q.2 : Int), q.1⟩ : Plc)) :: zwv q.1
theorem zif (t : T) : zwv t = zo8 t t.kids.length := by
 unfold zo8
 rw [List.take_length]
 unfold zwv
 rw [z3b, plcF]
 generalize zeb plcF = f
 generalize 0 = n
 induction t.kids generalizing n with
 | nil => rfl
 | cons k l ih => simp only [List.map_cons, List.zip_cons_cons, List.zipIdx_cons, List.flatMap_cons, ih]
theorem zuh {t : T} {i : Nat} (h : i < t.kids.length) : zo8 t (i + 1) = zo8 t i ++ [(t.kids[i].id, ⟨t.id, (i : Int), t.kids[i]⟩)] ++ zwv t.kids[i] := by
 unfold zo8
 rw [List.take_succ_eq_append_getElem h, List.zipIdx_append, List.flatMap_append]
 simp [List.length_take, Nat.min_eq_left (Nat.le_of_lt h)]
def plcs (t : T) : List (Idv × Plc) := (t.id, ⟨Idv.zero, 0, t⟩) :: zwv t
end Tr
namespace Abs
def z3o (p : Plc) : List D := .int .i64 p.par.act :: .int .i64 p.par.item :: .int .i64 p.par.n :: .int .i64 p.pos :: z08 p.unit
def encPl (p : Plc) : D := .agg (z3o p)
theorem z4l (p : Plc) : z3o p = [.int .i64 p.par.act, .int .i64 p.par.item, .int .i64 p.par.n, .int .i64 p.pos, .int .i64 p.unit.id.act, .int .i64 p.unit.id.item, .int .i64 p.unit.id.n, .int .i64 p.unit.kind, .str p.unit.label, z0s p.unit.head, z0s p.unit.words, z0m p.unit.kids] := by
 rw [z3o, z0r]
@[go_sem] theorem zui (p : Plc) : encPl p = .agg (z3o p) := rfl
@[go_sem] theorem zgf (p : Plc) : (z3o p).length = 12 := by rw [z4l]; rfl
@[go_sem] theorem cellsPl_par (p : Plc) : List.take 3 (z3o p) = [.int .i64 p.par.act, .int .i64 p.par.item, .int .i64 p.par.n] := by rw [z4l]; rfl
@[go_sem] theorem cellsPl_pos (p : Plc) : (z3o p)[3]? = some (.int .i64 p.pos) := by rw [z4l]; rfl
@[go_sem] theorem cellsPl_kind (p : Plc) : (z3o p)[7]? = some (.int .i64 p.unit.kind) := by rw [z4l]; rfl
@[go_sem] theorem cellsPl_unit (p : Plc) : List.take 8 (List.drop 4 (z3o p)) = z08 p.unit := by rw [z4l, z0r]; rfl
@[go_sem] theorem cellsPl_take (p : Plc) : List.take 12 (z3o p) = z3o p := List.take_of_length_le (by rw [zgf]; exact Nat.le_refl _)
@[go_sem] theorem zww (a b c d e f g h i j k l : D) (p : Plc) : z16 [a, b, c, d, e, f, g, h, i, j, k, l] 0 (z3o p) = z3o p := by
 rw [z4l]; rfl
@[go_sem] theorem splice_plcU (a b c d e f g h i j k l : D) (t : T) : z16 [a, b, c, d, e, f, g, h, i, j, k, l] 4 (z08 t) = a :: b :: c :: d :: z08 t := by
 rw [z0r]; rfl
theorem zd6 (p : Plc) : pureD.pureL (z3o p) = true := by
 rw [z4l]; simp only [pureD.pureL, pureD, z0q, z5t, Bool.and_true]
theorem zci (p : Plc) : pureD (encPl p) = true := by unfold encPl; rw [pureD]; exact zd6 p
attribute [go_sem] zd6
end Abs
namespace Abs
theorem zkc {P : Program} {n : FuncId} {args cap : List D} {g : List Oper -> (St -> Prop) -> St -> Prop} {rest : List Oper} {K : St -> Prop} {st : St} {dst : Option Nat} {k : Nat} {o' : HObj} {r : D} (h : AC P n (args ++ cap) st.H st.nx fun r' H2 n2 => r' = r /\ H2 = z10 st.H k (some o') /\ n2 = st.nx)
  (O : g rest K ((st.withH (z10 st.H k (some o')) st.nx).put dst r)) : zg1 P (.fn n cap) args g rest K st dst :=
 z3i (h.mono fun r' H2 n2 ⟨h1, h2, h3⟩ => by subst h1; subst h2; subst h3; exact O)
end Abs
theorem zq8 (o w m : Nat) : ∀ u : T, szB u = true -> ∀ (l : List (Idv × Plc)) H nx, o < nx -> w < nx -> m < nx -> H o = some (.box 98 [.mp m]) -> H w = some (.box 136 [.fn 91 [.ptr o 0, .ptr w 0]]) -> H m = some (.map (mapI encPl l)) ->
  AC prog 91 [z17 u, .ptr o 0, .ptr w 0] H nx fun r' H' nx' => r' = .tup [] /\ H' = z10 H m (some (.map (mapI encPl (l ++ zwv u)))) /\ nx' = nx := by
 refine z4f fun u ih hs l H nx ho hw hm hHo hHw hHm => ?_
 obtain ⟨h0, h1, g1, h2, g2, h3, h4⟩ := (z2n u).1 hs
 refine AC_upd rfl (zj4 zci _ _) hm ?_
 have eom : o ≠ m := fun e => by subst e; rw [hHo] at hHm; cases hHm
 have ewm : w ≠ m := fun e => by subst e; rw [hHw] at hHm; cases hHm
 have e1 := z1x eom
 have e2 := z1x ewm
 have e3 := z02 ho
 have e4 := z02 hw
 have e5 := z02 hm
 have hz : zo8 u 0 = [] := rfl
 refine (z2a [] func91 rfl (by decide +kernel) rfl ?_)
 show awp _ _ (Code.seq _ _) _ _
 repeat' (first | ((refine zqh fun K hK => ?_); (simp (disch := omega) only [go_sem, Nat.reduceBEq, ↓reduceIte, reduceCtorEq, Nat.reduceAdd])) | refine zqi ?_ | (refine hK _ ?_; clear hK K))
 (refine z4g (fun U st => ∃ (i : _), U = u.kids.length - i /\ st.t 1 = .ptr o 0 /\ st.t 2 = .ptr w 0 /\ st.t 3 = .ptr nx 0 /\ st.t 7 = z0m u.kids /\ st.t 8 = .int .i64 u.kids.length /\ st.t 9 = .int .i64 i /\ st.H (o) = some (.box 98 [.mp m]) /\ st.H (w) = some (.box 136 [.fn 91 [.ptr o 0, .ptr w 0]]) /\ st.H (m) = some (.map (mapI encPl (l ++ zo8 u i))) /\ st.H (nx) = some (.box 27 (z08 u)) /\ (i <= u.kids.length) /\ (nx < st.nx) /\ (∀ id, id < nx -> id ≠ m -> st.H id = H id)) ?_ ?_); rotate_left; (rintro U st ⟨i, rfl, q1, q2, q3, q7, q8, q9, qHo, qHw, qHm, qHnx, qp0, qp1, qp2⟩); rotate_left
 ·(refine ⟨_, 0, rfl, ?_⟩); (simp (disch := omega) only [go_sem, Nat.reduceBEq, true_and, Int.natCast_zero, List.append_nil, z0m, e3, e4, e5, hz])
  exact ⟨hHo, hHw, hHm, by omega, fun id hid hne => by simp (disch := omega) only [z0a]⟩
 have f3 := z02 (show o < st.nx by omega)
 have f4 := z02 (show w < st.nx by omega)
 have f5 := z02 (show m < st.nx by omega)
 have f6 := z02 qp1
 by_cases hi : i < u.kids.length
 ·have hn := zuh hi
  have hn' : l ++ zo8 u (i + 1) = l ++ zo8 u i ++ [(u.kids[i].id, ⟨u.id, (i : Int), u.kids[i]⟩)] ++ zwv u.kids[i] := by rw [hn]; simp only [List.append_assoc]
  rcases zcd encPl (l ++ zo8 u i) u.kids[i].id ⟨u.id, (i : Int), u.kids[i]⟩ with ⟨hmm, n, hf, hp⟩ | ⟨hmm, hf, hp⟩
  all_goals
   rw [zui, z3o] at hp
   simp only [] at hp
  all_goals
   repeat' (first | ((first | refine zqh fun K hK => ?_ | refine zqr fun K hK => ?_); (simp (disch := omega) only [go_sem, Nat.reduceBEq, ↓reduceIte, reduceCtorEq, Nat.reduceAdd, Nat.reduceLeDiff, q1, q2, q3, q7, q8, q9, qHo, qHw, qHm, qHnx, e2, f3, f4, f5, f6, z0m, hf, hp])) | (refine zqd _ rfl ?_ ?_ <;> intro hc <;> (((try simp only [z07] at hc); (try omega)))) | refine zqa ?_ | refine zqb ?_ | (refine hK _ ?_; clear hK K))
   refine zkc (ih _ (List.getElem_mem hi) (h4 _ (List.getElem_mem hi)) (l ++ zo8 u i ++ [(u.kids[i].id, ⟨u.id, (i : Int), u.kids[i]⟩)]) _ _ ?_ ?_ ?_ ?_ ?_ ?_) ?_
   any_goals
    (simp (disch := omega) only [go_sem, qHo, qHw, qHm, e1, e2, f3, f4, f5])
    all_goals omega
   rw [<- hn']
   (try (simp (disch := omega) only [go_sem])); repeat' (first | refine zqv ?_ | refine zqy ?_ | (refine hK _ ?_; clear hK K))
   refine ⟨_, SealTo.refl _, ?_⟩
   repeat' (first | ((refine zqr fun K hK => ?_); (simp (disch := omega) only [go_sem, Nat.reduceBEq, ↓reduceIte, q9])) | (refine hK _ ?_; clear hK K))
   (refine Exists.intro _ (And.intro ?_ ⟨i + 1, rfl, ?_⟩)); rotate_left; (simp (disch := omega) only [go_sem, Nat.reduceBEq, q1, q2, q3, q7, q8, q9, qHo, qHw, qHm, qHnx, true_and, Int.natCast_add, Int.natCast_one, e1, e2, e5, f3, f4, f5, f6]); rotate_left
   ·omega
   ·exact ⟨by omega, fun id hid hne => by simp (disch := omega) only [z0a]; exact qp2 id hid hne⟩
 ·repeat' (first | ((refine zqh fun K hK => ?_); (simp (disch := omega) only [go_sem, ↓reduceIte, q8, q9])) | (refine zqd _ rfl ?_ ?_ <;> intro hc <;> (((try simp only [z07] at hc); (try omega)))) | refine zqc ?_ | refine zqz ?_ | refine zqp ?_ | refine zqu (by simp only [go_sem]; rfl) rfl ?_ | (refine hK _ ?_; clear hK K))
  have hil : i = u.kids.length := by omega
  rw [hil, <- zif] at qHm
  (simp (disch := omega) only [go_sem, qHm])
  exact qp2
theorem zh2 {β : Type} {enc : β -> D} (he : ∀ x, pureD (enc x) = true) (l : List (Idv × β)) : z74 (.map (mapI enc l)) = true := by
 show (pureD.pureL ((mapI enc l).map (·.1)) && pureD.pureL ((mapI enc l).map (·.2))) = true
 unfold mapI
 rw [List.map_map, List.map_map, Bool.and_eq_true]
 exact ⟨z0f (fun _ => rfl) _, z0f (fun i => zcx he l i) _⟩
theorem zyp {β : Type} (enc : β -> D) (k : Idv) (v : β) : mapI enc [(k, v)] = [(z4x k, enc v)] := by simp [mapI, z1f, z83]
theorem zf9 (u : T) (hs : szB u = true) : OC prog 75 [z17 u] [.map (mapI encPl (plcs u))] (.mp 0) := by
 refine zi3 (by simp only [pureD.pureL, z0b, Bool.and_self]) rfl (fun o ho => by rw [List.mem_singleton] at ho; subst ho; exact zh2 zci _) (z2a [] func75 rfl (by decide +kernel) rfl ?_)
 show awp _ _ (Code.seq _ _) _ _
 repeat' (first | ((refine zqh fun K hK => ?_); (simp (disch := omega) only [go_sem, Nat.reduceBEq, ↓reduceIte, reduceCtorEq, Nat.reduceAdd, Nat.reduceLeDiff, Nat.reduceLT])) | (refine hK _ ?_; clear hK K))
 refine zkc (o' := .map (mapI encPl (plcs u))) (k := 1) (zq8 2 3 1 u hs [(u.id, ⟨Idv.zero, 0, u⟩)] _ _ ?_ ?_ ?_ ?_ ?_ ?_) ?_
 any_goals
  (simp (disch := omega) only [go_sem, Nat.reduceBEq, Nat.reduceLT])
  all_goals first | omega | rfl | (rw [zyp]; rfl)
 (try (simp (disch := omega) only [go_sem])); repeat' (first | ((refine zqh fun K hK => ?_); (simp (disch := omega) only [go_sem, Nat.reduceBEq, ↓reduceIte, Nat.reduceAdd])) | refine zqn ?_ | refine zqu (by simp only [go_sem]; rfl) rfl ?_ | (refine hK _ ?_; clear hK K))
 exact ⟨fun _ => 1, by (intro i j hi hj _; simp only [List.length_cons, List.length_nil] at hi hj; omega), rfl, fun j hj => by
  simp only [List.length_cons, List.length_nil] at hj
  obtain rfl : j = 0 := by omega
  (simp (disch := omega) only [go_sem, Nat.reduceBEq])⟩
end
end Go.Proofs.YtfechgagcgbldaaDoor
namespace Go.Proofs.YtfechgagcgbldaaDoor.Abs
open Go.RowKit
variable {P : Program}
def zc1 (ops : Array Oper) (j i : Nat) : Bool := match ops[i]? with
 | some o => o.after.toList.any fun e => Region.binds .any e && e.on == j
 | none => false
def okP (own : List Nat) (ops : Array Oper) (j i : Nat) : Bool := zc1 ops j i || match ops[j]?, ops[i]? with
 | some x, some y => za8 own ops x y || z000 own ops x y
 | _, _ => false
def pwB (p : Nat -> Nat -> Bool) : List Nat -> Bool
 | [] => true
 | i :: l => l.all (fun k => p i k) && pwB p l
theorem z9q {p : Nat -> Nat -> Bool} : ∀ {l : List Nat}, pwB p l = true -> l.Pairwise fun j i => p j i = true
 | [], _ => List.Pairwise.nil
 | i :: l, h => by
  simp only [pwB, Bool.and_eq_true, List.all_eq_true] at h
  exact List.pairwise_cons.2 ⟨h.1, z9q h.2⟩
def zj2 (ops : Array Oper) : Bool := (List.range ops.size).all fun i => match ops[i]? with
 | some o => o.after.toList.all fun e => !Region.binds .any e || decide (e.on < i)
 | none => true
section
variable {own : List Nat} {ops : Array Oper} {K : St -> Prop}
theorem zec {j i : Nat} {oj oi : Oper} (h : okP own ops j i = true) (V : zc1 ops j i = false) (hj : ops[j]? = some oj) (hi : ops[i]? = some oi) : zdl P own ops oj oi := by
 unfold okP at h
 rw [V, hj, hi] at h
 simp only [Bool.false_or, Bool.or_eq_true] at h
 rcases h with h | h
 ·exact fun st dx dy H1 H2 n1 n2 hx hy => swap h hx hy
 ·exact zwg h
theorem z7s {listed : Array Bool} {i : Nat} : i ∈ Region.ready .any ops listed ↔ i < ops.size /\ listed.getD i true = false /\ ∀ o, ops[i]? = some o -> ∀ e ∈ o.after.toList, Region.binds .any e = true -> listed.getD e.on false = true := by
 simp only [Region.ready, List.mem_filter, List.mem_range, Bool.and_eq_true, Bool.not_eq_true']
 constructor
 ·rintro ⟨h1, h2, h3⟩
  refine ⟨h1, h2, fun o ho e he hb => ?_⟩
  rw [ho] at h3
  simp only [Option.map_some, Option.getD_some, Array.all_eq_true'] at h3
  have := h3 e (by simpa using he)
  simpa [hb] using this
 ·rintro ⟨h1, h2, h3⟩
  refine ⟨h1, h2, ?_⟩
  rw [Array.getElem?_eq_getElem h1]
  simp only [Option.map_some, Option.getD_some, Array.all_eq_true']
  intro e he
  cases hb : Region.binds .any e with
  | false => rfl
  | true => simp only [Bool.not_true, Bool.false_or]; exact h3 _ (Array.getElem?_eq_getElem h1) e (by simpa using he) hb
theorem zrx {listed : Array Bool} {j : Nat} (h1 : listed.getD j true = false) (h2 : listed.getD j false = true) : False := by
 simp only [Array.getD_eq_getD_getElem?] at h1 h2
 cases h : listed[j]? with
 | none => rw [h] at h2; cases h2
 | some b => rw [h] at h1 h2; simp only [Option.getD_some] at h1 h2; rw [h1] at h2; cases h2
theorem z7t {listed : Array Bool} {j i : Nat} (hi : i ∈ Region.ready .any ops listed) (hj : listed.getD j true = false) : zc1 ops j i = false := by
 obtain ⟨h1, h2, h3⟩ := z7s.1 hi
 cases V : zc1 ops j i with
 | false => rfl
 | true =>
  unfold zc1 at V
  split at V
  ·rename_i o ho
   obtain ⟨e, he, hb⟩ := List.any_eq_true.1 V
   simp only [z07] at hb
   have := h3 o ho e he hb.1
   rw [hb.2] at this
   exact (zrx hj this).elim
  ·cases V
theorem zhl {listed : Array Bool} (hsz : listed.size = ops.size) (hlow : zj2 ops = true) (hr : Region.ready .any ops listed = []) : ∀ n, n < ops.size -> listed.getD n true = false -> False := by
 intro n
 induction n using Nat.strongRecOn with
 | _ n ih =>
  intro hn hl
  have hm : n ∉ Region.ready .any ops listed := by rw [hr]; exact List.not_mem_nil
  refine hm (z7s.2 ⟨hn, hl, fun o ho e he hb => ?_⟩)
  have h1 := List.all_eq_true.1 hlow n (by simpa using hn)
  rw [ho] at h1
  have h2 := List.all_eq_true.1 h1 e he
  rw [hb] at h2
  simp only [Bool.not_true, Bool.false_or, decide_eq_true_eq] at h2
  cases h3 : listed.getD e.on false with
  | true => rfl
  | false =>
   refine (ih e.on h2 (by omega) ?_).elim
   simp only [Array.getD_eq_getD_getElem?] at h3 ⊢
   rw [Array.getElem?_eq_getElem (by omega)] at h3 ⊢
   simpa using h3
def Rest (ops : Array Oper) (listed : Array Bool) (L : List Nat) : Prop := L.Nodup /\ ∀ i, i ∈ L ↔ i < ops.size /\ listed.getD i true = false
theorem Rest.step {listed : Array Bool} {r1 r2 : List Nat} {i : Nat} (h : Rest ops listed (r1 ++ i :: r2)) : Rest ops (listed.setIfInBounds i true) (r1 ++ r2) := by
 obtain ⟨hn, hm⟩ := h
 have hp : (r1 ++ i :: r2).Perm (i :: (r1 ++ r2)) := List.perm_middle
 have hn2 := hp.nodup_iff.1 hn
 rw [List.nodup_cons] at hn2
 refine ⟨hn2.2, fun k => ?_⟩
 rw [z2i, Bool.or_eq_false_iff]
 have h1 := hm k
 rw [hp.mem_iff, List.mem_cons] at h1
 constructor
 ·intro O
  obtain ⟨g1, g2⟩ := h1.1 (.inr O)
  exact ⟨g1, g2, by simp only [beq_eq_false_iff_ne]; rintro rfl; exact hn2.1 O⟩
 ·rintro ⟨g1, g2, g3⟩
  rcases h1.2 ⟨g1, g2⟩ with rfl | O
  ·simp at g3
  ·exact O
theorem zoo {N : Nat} {Q : Exit -> Act -> World -> Prop} (hlow : zj2 ops = true) (hdst : ∀ (i : Nat) o, ops[i]? = some o -> z3p N o = true) :
  ∀ (fuel : Nat) (L : List Nat) (listed : Array Bool) (st : St) (s : RS) (a : Act) (w : World), L.length <= fuel -> listed.size = ops.size -> Rest ops listed L -> (L.Pairwise fun j i => okP own ops j i = true) -> z6h P own ops K L st -> Fr P N st s a w ->
  (∀ st' s' a' w', K st' -> Fr P N st' s' a' w' -> Step s w s' w' -> Q .normal a' w') -> wpAny P .any ops Q fuel listed a w := by
 have hend : ∀ {L : List Nat} {listed : Array Bool}, listed.size = ops.size -> Rest ops listed L -> Region.ready .any ops listed = [] -> L = [] := fun {L listed} hsz hR hr => by
  cases L with
  | nil => rfl
  | cons n L =>
   obtain ⟨h1, h2⟩ := (hR.2 n).1 (by simp)
   exact (zhl hsz hlow hr n h1 h2).elim
 intro fuel
 induction fuel with
 | zero =>
  intro L listed st s a w hl hsz hR hp hrun hf O
  have h0 : L = [] := List.eq_nil_of_length_eq_zero (by omega)
  subst h0
  refine ⟨?_, O st s a w hrun hf (Step.refl s w)⟩
  cases hr : Region.ready .any ops listed with
  | nil => rfl
  | cons i r =>
   obtain ⟨h1, h2, _⟩ := z7s.1 (show i ∈ Region.ready .any ops listed by rw [hr]; simp)
   have := (hR.2 i).2 ⟨h1, h2⟩
   cases this
 | succ fuel ih =>
  intro L listed st s a w hl hsz hR hp hrun hf O
  refine ⟨fun hr => ?_, fun i hi => ?_⟩
  ·have h0 := hend hsz hR hr
   subst h0
   exact O st s a w hrun hf (Step.refl s w)
  ·obtain ⟨h1, h2, _⟩ := z7s.1 hi
   have hoi := Array.getElem?_eq_getElem h1
   obtain ⟨r1, r2, rfl⟩ := List.append_of_mem ((hR.2 i).2 ⟨h1, h2⟩)
   have hpp := List.pairwise_append.1 hp
   have hun : ∀ j ∈ r1, listed.getD j true = false := fun j hj => ((hR.2 j).1 (by simp [hj])).2
   obtain ⟨o, d, H, nx, ho, hstep, hrest⟩ := zlf hoi r1 r2 st (fun j hj oj hoj => zec (hpp.2.2 j hj i (by simp)) (z7t hi (hun j hj)) hoj hoi) hrun
   refine z49 ho (hdst i o ho) hf hstep fun s' a' w' hf' hs' => ih (r1 ++ r2) _ _ s' a' w' ?_ (by simpa using hsz) hR.step ?_ hrest hf' fun st2 s2 a2 w2 hK2 hf2 hs2 => O st2 s2 a2 w2 hK2 hf2 (hs'.trans hs2)
   ·simp only [List.length_append, List.length_cons] at hl ⊢; omega
   ·exact hp.sublist (List.Sublist.append (List.Sublist.refl _) (List.sublist_cons_self _ _))
theorem any_two {N : Nat} {Q : Exit -> Act -> World -> Prop} {a b : Nat} {s1 s2 : List Nat} (hlow : zj2 ops = true) (hdst : ∀ (i : Nat) o, ops[i]? = some o -> z3p N o = true)
  (hs1 : ∀ i ∈ s1, i = b \/ zc1 ops a i = true \/ zc1 ops b i = true) (hb : b ∈ s1) (ha : a ∈ s2) :
  ∀ (fuel : Nat) (pre : List Nat) (listed : Array Bool) (st : St) (s : RS) (c : Act) (w : World), pre.length + s1.length + s2.length + 1 <= fuel + s2.length -> pre.length + s2.length + 1 <= fuel -> listed.size = ops.size -> Rest ops listed (pre ++ a :: s1) -> Rest ops listed (pre ++ b :: s2) ->
  ((pre ++ [a]).Pairwise fun j i => okP own ops j i = true) -> ((pre ++ [b]).Pairwise fun j i => okP own ops j i = true) -> ((pre ++ s1).Pairwise fun j i => okP own ops j i = true) -> ((pre ++ s2).Pairwise fun j i => okP own ops j i = true) ->
  z6h P own ops (fun st => z6h P own ops K (a :: s1) st /\ z6h P own ops K (b :: s2) st) pre st -> Fr P N st s c w ->
  (∀ st' s' a' w', K st' -> Fr P N st' s' a' w' -> Step s w s' w' -> Q .normal a' w') -> wpAny P .any ops Q fuel listed c w := by
 intro fuel
 induction fuel with
 | zero => intro pre listed st s c w h1 h2; omega
 | succ fuel ih =>
  intro pre listed st s c w hl1 hl2 hsz hR1 hR2 pa pb p1 p2 hrun hf O
  have hua : listed.getD a true = false := ((hR1.2 a).1 (by simp)).2
  have hub : listed.getD b true = false := ((hR2.2 b).1 (by simp)).2
  refine ⟨fun hr => ?_, fun i hi => ?_⟩
  ·exact (zhl hsz hlow hr a ((hR1.2 a).1 (by simp)).1 hua).elim
  ·obtain ⟨h1, h2, _⟩ := z7s.1 hi
   have hoi := Array.getElem?_eq_getElem h1
   have hun : ∀ j ∈ pre, listed.getD j true = false := fun j hj => ((hR1.2 j).1 (by simp [hj])).2
   have toB : i = b -> wpOp P ops Q i (wpAny P .any ops Q fuel (listed.setIfInBounds i true)) c w := fun hib => by
    subst hib
    have hpp := List.pairwise_append.1 pb
    have hrun2 : z6h P own ops K (pre ++ i :: s2) st := by
     rw [z2s]; exact z4w (fun _ h => h.2) _ _ hrun
    obtain ⟨o, d, H, nx, ho, hstep, hrest⟩ := zlf hoi pre s2 st (fun j hj oj hoj => zec (hpp.2.2 j hj i (by simp)) (z7t hi (hun j hj)) hoj hoi) hrun2
    refine z49 ho (hdst i o ho) hf hstep fun s' a' w' hf' hs' => zoo hlow hdst fuel (pre ++ s2) _ _ s' a' w' ?_ (by simpa using hsz) hR2.step p2 hrest hf' fun st2 s2 a2 w2 hK2 hf2 hs2 => O st2 s2 a2 w2 hK2 hf2 (hs'.trans hs2)
    simp only [List.length_append]; omega
   have hm := (hR1.2 i).2 ⟨h1, h2⟩
   rw [List.mem_append, List.mem_cons] at hm
   rcases hm with hm | rfl | hm
   ·obtain ⟨r1, r2, rfl⟩ := List.append_of_mem hm
    have hpp := List.pairwise_append.1 (List.pairwise_append.1 pa).1
    obtain ⟨o, d, H, nx, ho, hstep, hrest⟩ := zlf hoi r1 r2 st (fun j hj oj hoj => zec (hpp.2.2 j hj i (by simp)) (z7t hi (hun j (by simp [hj]))) hoj hoi) hrun
    have sub : (r1 ++ r2).Sublist (r1 ++ i :: r2) := List.Sublist.append (List.Sublist.refl _) (List.sublist_cons_self _ _)
    have hR1' : Rest ops (listed.setIfInBounds i true) ((r1 ++ r2) ++ a :: s1) := by
     have h := hR1
     rw [List.append_assoc, List.cons_append] at h
     rw [List.append_assoc]; exact h.step
    have hR2' : Rest ops (listed.setIfInBounds i true) ((r1 ++ r2) ++ b :: s2) := by
     have h := hR2
     rw [List.append_assoc, List.cons_append] at h
     rw [List.append_assoc]; exact h.step
    refine z49 ho (hdst i o ho) hf hstep fun s' a' w' hf' hs' => ih (r1 ++ r2) _ _ s' a' w' ?_ ?_ (by simpa using hsz) hR1' hR2' (pa.sublist (List.Sublist.append sub (List.Sublist.refl _))) (pb.sublist (List.Sublist.append sub (List.Sublist.refl _))) (p1.sublist (List.Sublist.append sub (List.Sublist.refl _))) (p2.sublist (List.Sublist.append sub (List.Sublist.refl _))) hrest hf' fun st2 s2 a2 w2 hK2 hf2 hs2 => O st2 s2 a2 w2 hK2 hf2 (hs'.trans hs2)
    ·simp only [List.length_append, List.length_cons] at hl1 ⊢; omega
    ·simp only [List.length_append, List.length_cons] at hl2 ⊢; omega
   ·have hpp := List.pairwise_append.1 pa
    have hrun2 : z6h P own ops K (pre ++ i :: s1) st := by
     rw [z2s]; exact z4w (fun _ h => h.1) _ _ hrun
    obtain ⟨o, d, H, nx, ho, hstep, hrest⟩ := zlf hoi pre s1 st (fun j hj oj hoj => zec (hpp.2.2 j hj i (by simp)) (z7t hi (hun j hj)) hoj hoi) hrun2
    refine z49 ho (hdst i o ho) hf hstep fun s' a' w' hf' hs' => zoo hlow hdst fuel (pre ++ s1) _ _ s' a' w' ?_ (by simpa using hsz) hR1.step p1 hrest hf' fun st2 s2 a2 w2 hK2 hf2 hs2 => O st2 s2 a2 w2 hK2 hf2 (hs'.trans hs2)
    simp only [List.length_append]; omega
   ·rcases hs1 i hm with h | h | h
    ·exact toB h
    ·rw [z7t hi hua] at h; cases h
    ·rw [z7t hi hub] at h; cases h
def twoOK (own : List Nat) (ops : Array Oper) (pre : List Nat) (a b : Nat) (s1 s2 : List Nat) : Bool :=
 zj2 ops && (s1.all fun i => i == b || zc1 ops a i || zc1 ops b i) && s1.contains b && s2.contains a &&
 pwB (okP own ops) (pre ++ [a]) && pwB (okP own ops) (pre ++ [b]) && pwB (okP own ops) (pre ++ s1) && pwB (okP own ops) (pre ++ s2) &&
 pwB (fun j i => j != i) (pre ++ a :: s1) && pwB (fun j i => j != i) (pre ++ b :: s2) &&
 ((pre ++ a :: s1).all fun i => decide (i < ops.size)) && ((pre ++ b :: s2).all fun i => decide (i < ops.size)) &&
 decide ((pre ++ a :: s1).length = ops.size) && decide ((pre ++ b :: s2).length = ops.size) && ((List.range ops.size).all fun i => (pre ++ a :: s1).contains i && (pre ++ b :: s2).contains i)
theorem sem_two {N id : Nat} {Q : Exit -> St -> Prop} {st : St} (hm : P.follows .mixedOrders = true) (hdst : ∀ o ∈ ops.toList, z3p N o = true) (pre : List Nat) (a b : Nat) (s1 s2 : List Nat) (hok : twoOK own ops pre a b s1 s2 = true)
  (h : zdk P own ops (Q .normal) (.fork pre (.run (a :: s1)) (.run (b :: s2))) st) : Sem P N (.region id ops true) Q st := by
 intro s0 w0 s c w hf hs
 obtain ⟨hds, hdr⟩ := z7x (w' := { w with drawn := w.drawn + 1 }) hf.heap rfl rfl rfl rfl
 have hf' : Fr P N st s c { w with drawn := w.drawn + 1 } := ⟨hf.H, hf.nx, hf.size, hf.defers, hf.tmps, hdr⟩
 have hdst2 : ∀ (i : Nat) o, ops[i]? = some o -> z3p N o = true := fun i o ho => hdst o (by
  obtain ⟨h1, h2⟩ := (Array.getElem?_eq_some_iff.1 ho)
  rw [<- h2]; exact (Array.mem_toList_iff.2 (Array.getElem_mem h1)))
 simp only [twoOK, Bool.and_eq_true, List.all_eq_true, Bool.or_eq_true, beq_iff_eq, decide_eq_true_eq, List.contains_iff_mem, List.mem_range] at hok
 obtain ⟨⟨⟨⟨⟨⟨⟨⟨⟨⟨⟨⟨⟨⟨k1, k2⟩, k3⟩, k4⟩, k5⟩, k6⟩, k7⟩, k8⟩, k9⟩, k10⟩, k11⟩, k12⟩, k13⟩, k14⟩, k15⟩ := hok
 have nd : ∀ {L : List Nat}, pwB (fun j i => j != i) L = true -> L.Nodup := fun h => (z9q h).imp fun h => by simpa using h
 have gl : ∀ i, i < ops.size -> (Array.replicate ops.size false).getD i true = false := fun i hi => by
  simp [Array.getD_eq_getD_getElem?, hi]
 have hR1 : Rest ops (Array.replicate ops.size false) (pre ++ a :: s1) := ⟨nd k9, fun i => ⟨fun hi => ⟨k11 i hi, gl i (k11 i hi)⟩, fun hi => (k15 i hi.1).1⟩⟩
 have hR2 : Rest ops (Array.replicate ops.size false) (pre ++ b :: s2) := ⟨nd k10, fun i => ⟨fun hi => ⟨k12 i hi, gl i (k12 i hi)⟩, fun hi => (k15 i hi.1).2⟩⟩
 simp only [List.length_append, List.length_cons] at k13 k14
 exact wp_region_any hm (any_two (Q := lift P N s0 w0 Q) k1 hdst2 (fun i hi => by rcases k2 i hi with (h | h) | h; (· exact .inl h); (· exact .inr (.inl h)); (· exact .inr (.inr h))) k3 k4 ops.size pre _ st s c _ (by omega) (by omega) (by simp) hR1 hR2 (z9q k5) (z9q k6) (z9q k7) (z9q k8) h hf' fun st' s' a' w' hK hf2 hs2 => ⟨st', s', hK, hf2, hs.trans (hds.trans hs2)⟩)
end
end Go.Proofs.YtfechgagcgbldaaDoor.Abs
namespace Go.Proofs.YtfechgagcgbldaaDoor.Abs
theorem zuc {P : Program} {st : St} {id j n : Nat} {e : TypeId} {cs : List D} (hH : st.H id = some (.row e n cs)) (ho : zlt P e = true) (hp : pureD.pureL cs = true) (hj : st.t j = .osl id n) :
  SealTo P st ((st.withH (z10 st.H id none) st.nx).put (some j) (.rsl false (z01 P e) (z1p (z05 P e) (z01 P e) n cs))) := by
 intro N s a w hf
 have hid : s.H id = some (.row e n cs) := by rw [hf.H]; exact hH
 obtain ⟨g1, g2⟩ := zfh hf.heap (id := id) (by rw [hid]; simp)
 refine ⟨s.shut1 w id, ⟨?_, hf.nx, hf.size, hf.defers, fun i => ?_, g2⟩, g1⟩
 ·show z10 s.H id none = _
  rw [hf.H]; rfl
 ·by_cases hij : i = j
  ·subst hij
   have ht := hf.tmps i
   rw [hj] at ht
   have hs : zel P (.osl id n, s.H, s.nx) = some (.rsl false (z01 P e) (z1p (z05 P e) (z01 P e) n cs), z10 s.H id none, s.nx) := by
    unfold zel
    simp only [hid]
    rw [if_pos ⟨trivial, ho, hp⟩]
   obtain ⟨s2, _, _, _, _, hr2, he2⟩ := zfi hf.heap rfl rfl ht hs
   have he3 := he2 id n rfl
   subst he3
   show rel _ (zwq st.t i _ i) _
   rw [show zwq st.t i (.rsl false (z01 P e) (z1p (z05 P e) (z01 P e) n cs)) i = _ from if_pos rfl]
   exact hr2
  ·show rel _ (zwq st.t j _ i) _
   rw [show zwq st.t j (.rsl false (z01 P e) (z1p (z05 P e) (z01 P e) n cs)) i = st.t i from if_neg hij]
   exact rel.later g1.later _ _ (hf.tmps i)
end Go.Proofs.YtfechgagcgbldaaDoor.Abs
