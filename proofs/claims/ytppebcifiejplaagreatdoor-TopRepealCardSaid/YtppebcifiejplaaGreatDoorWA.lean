import Derived.WalkKit
import Derived.Below
import Derived.Laws.AppendOwn
import Derived.Laws.Tables
import Derived.Laws.Cells
import Derived.Laws.StructEq
import Derived.Laws.MakeOwn
import Derived.Laws.Append
import Derived.MapKept
import Derived.Laws.RangeString
import Derived.Laws.IdiomStrings
import Derived.Laws.BytesArg
import Derived.Lib.OthersKept
import Derived.LaidEql
/-
 Lemmas of the claim. No condition but those that each names.
-/
set_option linter.unusedSimpArgs false
set_option linter.unusedVariables false
set_option linter.unusedSectionVars false
namespace Go.Proofs.YtppebcifiejplaaGreatDoor.Abs
open Go.RowKit

inductive D where
 | any
 | int (k : IntKind) (n : Int)
 | bool (b : Bool)
 | str (s : ByteArray)
 | agg (ds : List D)
 | tup (ds : List D)
 | nil
 | rsl (nn : Bool) (sz : Nat) (els : List D)
 | nptr
 | rptr (d : D)
 | nfun
 | fn (f : FuncId) (cap : List D)
 | bfn (f : FuncId) (first : List D)
 | osl (id n : Nat)
 | ptr (id off : Nat)
 | eptr (id n off : Nat)
 | mp (id : Nat)
 | nmp
 | e0
 | fsl (sz : Nat) (els : List D)
 | it (id : Nat)

inductive HObj where
 | box (e : TypeId) (cs : List D)
 | row (e : TypeId) (n : Nat) (cs : List D)
 | map (es : List (D × D))
 | raw (o : Obj)

abbrev HM := Nat -> Option HObj
def z9p : HObj -> Bool
 | .map _ => true
 | .raw _ => true
 | _ => false

structure RS where
 m : Addr -> Option Value
 κ : Nat -> Value
 H : HM
 nx : Nat

def z5t (vs : List Value) : Prop := ∀ v ∈ vs, v.oneCell' = true
def cellsAt (m : Addr -> Option Value) (a : Addr) (cs : List Value) : Prop := ∀ j c, cs[j]? = some c -> m (a.add j) = some c
def Lies (m : Addr -> Option Value) (a : Addr) (sz : Nat) (vs : List Value) : Prop :=
 ∀ i v, vs[i]? = some v -> v.cells.size = sz /\ cellsAt m (a.add (i * sz)) v.cells.toList
def blockOf : Value -> Option Nat
 | .pointer (some a) => some a.block
 | .slice (some a) _ _ => some a.block
 | .map (some r) => some r
 | _ => none

mutual
def rel (s : RS) : D -> Value -> Prop
 | .any, _ => True
 | .int k n, v => v = .int k n
 | .bool b, v => v = .bool b
 | .str x, v => v = .string x
 | .agg ds, v => ∃ vs : List Value, v = .agg vs.toArray /\ relAll s ds vs /\ z5t vs
 | .tup ds, v => ∃ vs : List Value, v = .tuple vs.toArray /\ relAll s ds vs
 | .nil, v => v = .slice none 0 0
 | .rsl nn sz els, v => (nn = false /\ els = [] /\ v = .slice none 0 0) \/
   ∃ a cap vs, v = .slice (some a) els.length cap /\ els.length <= cap /\ cap <= maxLen /\ relAll s els vs /\ Lies s.m a sz vs
 | .nptr, v => v = .pointer none
 | .rptr d, v => ∃ a u, v = .pointer (some a) /\ rel s d u /\ cellsAt s.m a u.cells.toList
 | .nfun, v => v = .nilFunc
 | .fn f cap, v => ∃ vs : List Value, v = .func (.func f) #[] vs.toArray /\ relAll s cap vs
 | .bfn f first, v => ∃ vs : List Value, v = .func (.func f) vs.toArray #[] /\ relAll s first vs
 | .osl id n, v => id < s.nx /\ (∃ a c, v = .slice a n c) /\ ∀ e k cs, s.H id = some (.row e k cs) -> n <= k /\ (n = k -> v = s.κ id)
 | .ptr id off, v => id < s.nx /\ (∃ a, v = .pointer (some a)) /\ ∀ e cs, s.H id = some (.box e cs) -> ∃ b, s.κ id = .pointer (some ⟨b, 0, none⟩) /\ v = .pointer (some ⟨b, off, none⟩)
 | .eptr id n off, v => id < s.nx /\ (∃ a, v = .pointer (some a)) /\ ∀ e k cs, s.H id = some (.row e k cs) -> n <= k /\ (n = k -> ∃ b, blockOf (s.κ id) = some b /\ v = .pointer (some ⟨b, off, none⟩))
 | .mp id, v => id < s.nx /\ (∃ r, v = .map (some r)) /\ ∀ o, s.H id = some o -> z9p o = true -> v = s.κ id
 | .nmp, v => v = .map none
 | .e0, v => ∃ a, v = .slice (some a) 0 0
 | .fsl sz els, v => (els = [] /\ v = .slice none 0 0) \/ ∃ a vs, v = .slice (some a) els.length els.length /\ els.length <= maxLen /\ relAll s els vs /\ Lies s.m a sz vs
 | .it id, v => id < s.nx /\ (∃ a, v = .pointer (some a)) /\ ∀ o, s.H id = some o -> z9p o = true -> v = s.κ id
def relAll (s : RS) : List D -> List Value -> Prop
 | [], vs => vs = []
 | d :: ds, vs => ∃ v r, vs = v :: r /\ rel s d v /\ relAll s ds r
end

theorem z06 {s : RS} : ∀ {ds : List D} {vs : List Value}, relAll s ds vs -> vs.length = ds.length
 | [], vs, h => by simp [relAll] at h; simp [h]
 | d :: ds, vs, h => by
  obtain ⟨v, r, rfl, _, h2⟩ := (by simpa only [relAll] using h : ∃ v r, vs = v :: r /\ rel s d v /\ relAll s ds r)
  simp [z06 h2]
theorem z0m {s : RS} {d : D} {ds : List D} {v : Value} {r : List Value} (h : rel s d v) (hr : relAll s ds r) : relAll s (d :: ds) (v :: r) := by
 simp only [relAll]; exact ⟨v, r, rfl, h, hr⟩
theorem z0q {s : RS} : relAll s [] [] := by simp [relAll]
theorem z29 {s : RS} : ∀ {ds : List D} {vs : List Value}, relAll s ds vs -> ∀ (i : Nat) (d : D), ds[i]? = some d -> ∃ v, vs[i]? = some v /\ rel s d v
 | [], vs, h, i, d, V => by simp at V
 | d0 :: ds, vs, h, i, d, V => by
  obtain ⟨v, r, rfl, h1, h2⟩ := (by simpa only [relAll] using h : ∃ v r, vs = v :: r /\ rel s d0 v /\ relAll s ds r)
  cases i with
  | zero => simp at V; subst V; exact ⟨v, by simp, h1⟩
  | succ i =>
   obtain ⟨u, hu, hr⟩ := z29 h2 i d (by simpa using V)
   exact ⟨u, by simpa using hu, hr⟩
theorem z4j {s : RS} : ∀ {ds : List D} {vs : List Value}, vs.length = ds.length -> (∀ (i : Nat) d v, ds[i]? = some d -> vs[i]? = some v -> rel s d v) -> relAll s ds vs
 | [], vs, hl, _ => by
  have : vs = [] := List.eq_nil_of_length_eq_zero (by simpa using hl)
  subst this; exact z0q
 | d :: ds, [], hl, _ => by simp at hl
 | d :: ds, v :: vs, hl, h => z0m (h 0 d v (by simp) (by simp)) (z4j (by simpa using hl) fun i d' v' h1 h2 => h (i + 1) d' v' (by simpa using h1) (by simpa using h2))
theorem z1n {s : RS} : ∀ {ds es : List D} {vs us : List Value}, relAll s ds vs -> relAll s es us -> relAll s (ds ++ es) (vs ++ us)
 | [], es, vs, us, h, h' => by simp [relAll] at h; subst h; simpa using h'
 | d :: ds, es, vs, us, h, h' => by
  obtain ⟨v, r, rfl, h1, h2⟩ := (by simpa only [relAll] using h : ∃ v r, vs = v :: r /\ rel s d v /\ relAll s ds r)
  exact z0m h1 (z1n h2 h')
theorem z62 {s : RS} (n : Nat) {ds : List D} {vs : List Value} (h : relAll s ds vs) : relAll s (ds.take n) (vs.take n) := by
 refine z4j (by simp [z06 h]) fun i d v V hv => ?_
 simp only [List.getElem?_take] at V hv
 split at V
 ·rename_i hi
  rw [if_pos hi] at hv
  obtain ⟨u, hu, hr⟩ := z29 h i d V
  rw [hu] at hv; cases hv; exact hr
 ·cases V
theorem z7v {s : RS} (n : Nat) {ds : List D} {vs : List Value} (h : relAll s ds vs) : relAll s (ds.drop n) (vs.drop n) := by
 refine z4j (by simp [z06 h]) fun i d v V hv => ?_
 simp only [List.getElem?_drop] at V hv
 obtain ⟨u, hu, hr⟩ := z29 h _ d V
 rw [hu] at hv; cases hv; exact hr
theorem zgt {s : RS} {ds : List D} {vs : List Value} (h : relAll s ds vs) (n : Nat) {d : D} {v : Value} (V : rel s d v) : relAll s (ds.set n d) (vs.set n v) := by
 refine z4j (by simp [z06 h]) fun i d' v' h1 h2 => ?_
 simp only [List.getElem?_set] at h1 h2
 have hlen := z06 h
 split at h1
 ·rename_i hn
  subst hn
  rw [if_pos rfl] at h2
  split at h1
  ·rename_i hl
   rw [if_pos (by omega)] at h2
   cases h1; cases h2; exact V
  ·cases h1
 ·rename_i hn
  rw [if_neg hn] at h2
  obtain ⟨u, hu, hr⟩ := z29 h i d' h1
  rw [hu] at h2; cases h2; exact hr

def owned (s : RS) (k : Nat) : Prop := ∃ id, id < s.nx /\ s.H id ≠ none /\ blockOf (s.κ id) = some k

def objLe (o o' : Option HObj) (v v' : Value) : Prop :=
 match o with
 | none => o' = none
 | some (.box e _) => o' = none \/ ∃ cs', o' = some (.box e cs') /\ v' = v
 | some (.row e n _) => o' = none \/ ∃ n' cs', o' = some (.row e n' cs') /\ n <= n' /\ (n = n' -> v' = v)
 | some (.map _) => o' = none \/ ∃ q', o' = some q' /\ z9p q' = true /\ v' = v
 | some (.raw _) => o' = none \/ ∃ q', o' = some q' /\ z9p q' = true /\ v' = v

theorem objLe.refl (o : Option HObj) (v : Value) : objLe o o v v := by
 unfold objLe
 cases o with
 | none => rfl
 | some o => cases o <;> simp [z9p]
theorem z43 {o : HObj} {o' : Option HObj} {v v' : Value} (h : z9p o = true) (hl : objLe (some o) o' v v') : o' = none \/ ∃ q', o' = some q' /\ z9p q' = true /\ v' = v := by
 cases o with
 | box e cs => cases h
 | row e n cs => cases h
 | map es => exact hl
 | raw q => exact hl
theorem zku {o : HObj} {o' : Option HObj} {v v' : Value} (h : z9p o = true) (hl : o' = none \/ ∃ q', o' = some q' /\ z9p q' = true /\ v' = v) : objLe (some o) o' v v' := by
 cases o with
 | box e cs => cases h
 | row e n cs => cases h
 | map es => exact hl
 | raw q => exact hl
theorem objLe.trans {o o' o'' : Option HObj} {v v' v'' : Value} (h : objLe o o' v v') (h' : objLe o' o'' v' v'') : objLe o o'' v v'' := by
 cases o with
 | none => unfold objLe at *; simp only at h; subst h; simpa using h'
 | some o =>
  by_cases hm : z9p o = true
  ·refine zku hm ?_
   rcases z43 hm h with h | ⟨q, h, hq, hv⟩
   ·subst h; exact .inl (by unfold objLe at h'; simpa using h')
   ·subst h
    rcases z43 hq h' with h' | ⟨q', h', hq', hv'⟩
    ·exact .inl h'
    ·exact .inr ⟨q', h', hq', hv'.trans hv⟩
  unfold objLe at *
  cases o with
  | box e cs =>
   rcases h with h | ⟨cs', h, hv⟩
   ·subst h; exact .inl (by simpa using h')
   ·subst h
    rcases h' with h' | ⟨cs'', h', hv'⟩
    ·exact .inl h'
    ·exact .inr ⟨cs'', h', hv'.trans hv⟩
  | row e n cs =>
   rcases h with h | ⟨n', cs', h, hn, hv⟩
   ·subst h; exact .inl (by simpa using h')
   ·subst h
    rcases h' with h' | ⟨n'', cs'', h', hn', hv'⟩
    ·exact .inl h'
    ·exact .inr ⟨n'', cs'', h', by omega, fun e => (hv' (by omega)).trans (hv (by omega))⟩
  | map es => exact absurd rfl hm
  | raw q => exact absurd rfl hm

structure Step (s : RS) (w : World) (s' : RS) (w' : World) : Prop where
 os : w'.os = w.os
 tape : w'.tape = w.tape
 output : w'.output = w.output
 size : w.heap.size <= w'.heap.size
 nx : s.nx <= s'.nx
 mem : ∀ a v, s.m a = some v -> s'.m a = some v
 new : ∀ a v, s'.m a = some v -> s.m a = some v \/ w.heap.size <= a.block \/ owned s a.block
 objs : ∀ id, id < s.nx -> objLe (s.H id) (s'.H id) (s.κ id) (s'.κ id)
 keep : ∀ k, k < w.heap.size -> ¬ owned s k -> w'.heap[k]? = w.heap[k]?
 own : ∀ k, owned s' k -> owned s k \/ w.heap.size <= k

theorem Step.refl (s : RS) (w : World) : Step s w s w :=
 ⟨rfl, rfl, rfl, Nat.le_refl _, Nat.le_refl _, fun _ _ h => h, fun _ _ h => .inl h, fun _ _ => objLe.refl _ _, fun _ _ _ => rfl, fun _ h => .inl h⟩
theorem Step.trans {s s' s'' : RS} {w w' w'' : World} (h : Step s w s' w') (h' : Step s' w' s'' w'') : Step s w s'' w'' := by
 refine ⟨h'.os.trans h.os, h'.tape.trans h.tape, h'.output.trans h.output, Nat.le_trans h.size h'.size, Nat.le_trans h.nx h'.nx,
  fun a v hm => h'.mem a v (h.mem a v hm), fun a v hm => ?_, fun id hid => (h.objs id hid).trans (h'.objs id (Nat.lt_of_lt_of_le hid h.nx)),
  fun k O ho => ?_, fun k ho => ?_⟩
 ·rcases h'.new a v hm with h1 | h1 | h1
  ·exact h.new a v h1
  ·exact .inr (.inl (Nat.le_trans h.size h1))
  ·rcases h.own _ h1 with h2 | h2
   ·exact .inr (.inr h2)
   ·exact .inr (.inl h2)
 ·rw [h'.keep k (Nat.lt_of_lt_of_le O h.size) (fun h1 => by
   rcases h.own k h1 with h2 | h2
   ·exact ho h2
   ·omega)]
  exact h.keep k O ho
 ·rcases h'.own k ho with h1 | h1
  ·exact h.own k h1
  ·exact .inr (Nat.le_trans h.size h1)

structure Later (s s' : RS) : Prop where
 nx : s.nx <= s'.nx
 mem : ∀ a v, s.m a = some v -> s'.m a = some v
 objs : ∀ id, id < s.nx -> objLe (s.H id) (s'.H id) (s.κ id) (s'.κ id)
theorem Step.later {s s' : RS} {w w' : World} (h : Step s w s' w') : Later s s' := ⟨h.nx, h.mem, h.objs⟩
theorem cellsAt.later {m m' : Addr -> Option Value} (hm : ∀ a v, m a = some v -> m' a = some v) {a : Addr} {cs : List Value} (h : cellsAt m a cs) : cellsAt m' a cs :=
 fun j c hc => hm _ _ (h j c hc)

mutual
theorem rel.later {s s' : RS} (h : Later s s') : ∀ (d : D) (v : Value), rel s d v -> rel s' d v
 | .any, _, _ => by simp [rel]
 | .int k n, v, hr => by simpa [rel] using hr
 | .bool b, v, hr => by simpa [rel] using hr
 | .str x, v, hr => by simpa [rel] using hr
 | .agg ds, v, hr => by
  simp only [rel] at hr ⊢
  obtain ⟨vs, h1, h2, h3⟩ := hr
  exact ⟨vs, h1, relAll.later h ds vs h2, h3⟩
 | .tup ds, v, hr => by
  simp only [rel] at hr ⊢
  obtain ⟨vs, h1, h2⟩ := hr
  exact ⟨vs, h1, relAll.later h ds vs h2⟩
 | .nil, v, hr => by simpa [rel] using hr
 | .rsl nn sz els, v, hr => by
  simp only [rel] at hr ⊢
  rcases hr with hr | ⟨a, cap, vs, h1, h2, h3, h4, h5⟩
  ·exact .inl hr
  ·exact .inr ⟨a, cap, vs, h1, h2, h3, relAll.later h els vs h4, fun i u hu => ⟨(h5 i u hu).1, (h5 i u hu).2.later h.mem⟩⟩
 | .nptr, v, hr => by simpa [rel] using hr
 | .rptr d, v, hr => by
  simp only [rel] at hr ⊢
  obtain ⟨a, u, h1, h2, h3⟩ := hr
  exact ⟨a, u, h1, rel.later h d u h2, h3.later h.mem⟩
 | .nfun, v, hr => by simpa [rel] using hr
 | .fn f cap, v, hr => by
  simp only [rel] at hr ⊢
  obtain ⟨vs, h1, h2⟩ := hr
  exact ⟨vs, h1, relAll.later h cap vs h2⟩
 | .bfn f first, v, hr => by
  simp only [rel] at hr ⊢
  obtain ⟨vs, h1, h2⟩ := hr
  exact ⟨vs, h1, relAll.later h first vs h2⟩
 | .osl id n, v, hr => by
  simp only [rel] at hr ⊢
  obtain ⟨h1, h0, h2⟩ := hr
  refine ⟨Nat.lt_of_lt_of_le h1 h.nx, h0, fun e k cs hH => ?_⟩
  have ho := h.objs id h1
  unfold objLe at ho
  cases hs : s.H id with
  | none => rw [hs] at ho; simp only at ho; rw [ho] at hH; cases hH
  | some o =>
   rw [hs] at ho
   cases o with
   | box e' cs' => rcases ho with ho | ⟨x, ho, _⟩ <;> rw [ho] at hH <;> cases hH
   | map es => rcases ho with ho | ⟨x, ho, hx, _⟩ <;> rw [ho] at hH <;> cases hH; cases hx
   | raw q => rcases ho with ho | ⟨x, ho, hx, _⟩ <;> rw [ho] at hH <;> cases hH; cases hx
   | row e' n' cs' =>
    rcases ho with ho | ⟨n'', cs'', ho, hn, hv⟩
    ·rw [ho] at hH; cases hH
    ·rw [ho] at hH; cases hH
     obtain ⟨h3, h4⟩ := h2 _ _ _ hs
     exact ⟨by omega, fun e => by rw [hv (by omega)]; exact h4 (by omega)⟩
 | .ptr id off, v, hr => by
  simp only [rel] at hr ⊢
  obtain ⟨h1, h0, h2⟩ := hr
  refine ⟨Nat.lt_of_lt_of_le h1 h.nx, h0, fun e cs hH => ?_⟩
  have ho := h.objs id h1
  unfold objLe at ho
  cases hs : s.H id with
  | none => rw [hs] at ho; simp only at ho; rw [ho] at hH; cases hH
  | some o =>
   rw [hs] at ho
   cases o with
   | row e' n' cs' => rcases ho with ho | ⟨_, x, ho, _⟩ <;> rw [ho] at hH <;> cases hH
   | map es => rcases ho with ho | ⟨x, ho, hx, _⟩ <;> rw [ho] at hH <;> cases hH; cases hx
   | raw q => rcases ho with ho | ⟨x, ho, hx, _⟩ <;> rw [ho] at hH <;> cases hH; cases hx
   | box e' cs' =>
    rcases ho with ho | ⟨cs'', ho, hv⟩
    ·rw [ho] at hH; cases hH
    ·rw [ho] at hH; cases hH
     obtain ⟨b, h3, h4⟩ := h2 _ _ hs
     exact ⟨b, by rw [hv]; exact h3, h4⟩
 | .eptr id n off, v, hr => by
  simp only [rel] at hr ⊢
  obtain ⟨h1, h0, h2⟩ := hr
  refine ⟨Nat.lt_of_lt_of_le h1 h.nx, h0, fun e k cs hH => ?_⟩
  have ho := h.objs id h1
  unfold objLe at ho
  cases hs : s.H id with
  | none => rw [hs] at ho; simp only at ho; rw [ho] at hH; cases hH
  | some o =>
   rw [hs] at ho
   cases o with
   | box e' cs' => rcases ho with ho | ⟨x, ho, _⟩ <;> rw [ho] at hH <;> cases hH
   | map es => rcases ho with ho | ⟨x, ho, hx, _⟩ <;> rw [ho] at hH <;> cases hH; cases hx
   | raw q => rcases ho with ho | ⟨x, ho, hx, _⟩ <;> rw [ho] at hH <;> cases hH; cases hx
   | row e' n' cs' =>
    rcases ho with ho | ⟨n'', cs'', ho, hn, hv⟩
    ·rw [ho] at hH; cases hH
    ·rw [ho] at hH; cases hH
     obtain ⟨h3, h4⟩ := h2 _ _ _ hs
     exact ⟨by omega, fun e => by rw [hv (by omega)]; exact h4 (by omega)⟩
 | .mp id, v, hr => by
  simp only [rel] at hr ⊢
  obtain ⟨h1, h0, h2⟩ := hr
  refine ⟨Nat.lt_of_lt_of_le h1 h.nx, h0, fun o hH hm => ?_⟩
  have ho := h.objs id h1
  cases hs : s.H id with
  | none => rw [hs] at ho; unfold objLe at ho; simp only at ho; rw [ho] at hH; cases hH
  | some q =>
   rw [hs] at ho
   cases q with
   | row e' n' cs' => unfold objLe at ho; rcases ho with ho | ⟨_, x, ho, _⟩ <;> rw [ho] at hH <;> cases hH; cases hm
   | box e' cs' => unfold objLe at ho; rcases ho with ho | ⟨x, ho, _⟩ <;> rw [ho] at hH <;> cases hH; cases hm
   | map es' =>
    rcases z43 rfl ho with ho | ⟨q', ho, _, hv⟩
    ·rw [ho] at hH; cases hH
    ·rw [hv]; exact h2 _ hs rfl
   | raw q' =>
    rcases z43 rfl ho with ho | ⟨q'', ho, _, hv⟩
    ·rw [ho] at hH; cases hH
    ·rw [hv]; exact h2 _ hs rfl
 | .nmp, v, hr => by simpa [rel] using hr
 | .e0, v, hr => by simpa [rel] using hr
 | .fsl sz els, v, hr => by
  simp only [rel] at hr ⊢
  rcases hr with hr | ⟨a, vs, h1, h3, h4, h5⟩
  ·exact .inl hr
  exact .inr ⟨a, vs, h1, h3, relAll.later h els vs h4, fun i u hu => ⟨(h5 i u hu).1, (h5 i u hu).2.later h.mem⟩⟩
 | .it id, v, hr => by
  simp only [rel] at hr ⊢
  obtain ⟨h1, h0, h2⟩ := hr
  refine ⟨Nat.lt_of_lt_of_le h1 h.nx, h0, fun o hH hm => ?_⟩
  have ho := h.objs id h1
  cases hs : s.H id with
  | none => rw [hs] at ho; unfold objLe at ho; simp only at ho; rw [ho] at hH; cases hH
  | some q =>
   rw [hs] at ho
   cases q with
   | row e' n' cs' => unfold objLe at ho; rcases ho with ho | ⟨_, x, ho, _⟩ <;> rw [ho] at hH <;> cases hH; cases hm
   | box e' cs' => unfold objLe at ho; rcases ho with ho | ⟨x, ho, _⟩ <;> rw [ho] at hH <;> cases hH; cases hm
   | map es' =>
    rcases z43 rfl ho with ho | ⟨q', ho, _, hv⟩
    ·rw [ho] at hH; cases hH
    ·rw [hv]; exact h2 _ hs rfl
   | raw q' =>
    rcases z43 rfl ho with ho | ⟨q'', ho, _, hv⟩
    ·rw [ho] at hH; cases hH
    ·rw [hv]; exact h2 _ hs rfl
theorem relAll.later {s s' : RS} (h : Later s s') : ∀ (ds : List D) (vs : List Value), relAll s ds vs -> relAll s' ds vs
 | [], vs, hr => by simpa [relAll] using hr
 | d :: ds, vs, hr => by
  simp only [relAll] at hr ⊢
  obtain ⟨v, r, h1, h2, h3⟩ := hr
  exact ⟨v, r, h1, rel.later h d v h2, relAll.later h ds r h3⟩
end

def z02 (P : Program) (t : TypeId) : Nat := ((P.info? t).map (·.size)).getD 0

def zfu (ens : Array MapEntry) (clock : Nat) : Prop := (∀ x ∈ ens.toList, x.born < clock) /\ (ens.toList.map (·.born)).Nodup
def objOK (P : Program) (s : RS) (w : World) (v : Value) : HObj -> Prop
 | .box e cs => ∃ b vs, v = .pointer (some ⟨b, 0, none⟩) /\ w.heap[b]? = some (.cells (List.toArray vs) e (0, 0)) /\ relAll s cs vs /\ z5t vs
 | .row e n cs => ∃ vs, w.ownsRow 0 e (z02 P e) v n vs /\ relAll s cs vs /\ z5t vs
 | .map es => ∃ (r : Nat) (ens : Array MapEntry) (clock : Nat), v = .map (some r) /\ w.heap[r]? = some (.map ens clock) /\
   relAll s (es.map (·.1)) (ens.toList.map (·.key)) /\ relAll s (es.map (·.2)) (ens.toList.map (·.val)) /\ zfu ens clock
 | .raw o => ∃ r, (v = .pointer (some ⟨r, 0, none⟩) \/ v = .map (some r)) /\ w.heap[r]? = some o

def pureD : D -> Bool
 | .osl .. | .ptr .. | .eptr .. | .mp _ | .it _ => false
 | .agg ds => pureL ds
 | .tup ds => pureL ds
 | .rsl _ _ els => pureL els
 | .fsl _ els => pureL els
 | .rptr d => pureD d
 | .fn _ cap => pureL cap
 | .bfn _ first => pureL first
 | _ => true
where pureL : List D -> Bool
 | [] => true
 | d :: ds => pureD d && pureL ds
def globD : Nat -> D
 | 0 => .rptr (.agg [.fn 374 [], .fn 375 []])
 | 1 => .rptr (.agg [.rsl true 1 [.int .i64 1, .int .i64 2], .rsl true 1 [.int .i64 2], .rsl true 1 [.int .i64 3, .int .i64 4, .int .i64 7], .rsl true 1 [.int .i64 3, .int .i64 4, .int .i64 7], .rsl true 1 [.int .i64 5], .rsl true 1 [.int .i64 6], .nil, .nil])
 | 2 => .rptr (.agg [.str ⟨#[98, 111, 111, 107]⟩, .str ⟨#[112, 97, 114, 116]⟩, .str ⟨#[115, 101, 99, 116, 105, 111, 110]⟩, .str ⟨#[112, 97, 114, 97, 103, 114, 97, 112, 104]⟩, .str ⟨#[116, 97, 98, 108, 101]⟩, .str ⟨#[114, 111, 119]⟩, .str ⟨#[99, 101, 108, 108]⟩, .str ⟨#[110, 111, 116, 101]⟩])
 | _ => .any
theorem z77 (g : Nat) : pureD (globD g) = true := by unfold globD; split <;> rfl
structure RH (P : Program) (s : RS) (w : World) : Prop where
 mem : ∀ a v, s.m a = some v -> w.cell? a = some v /\ ¬ owned s a.block
 obj : ∀ id o, s.H id = some o -> id < s.nx /\ objOK P s w (s.κ id) o
 apart : ∀ i j, s.H i ≠ none -> s.H j ≠ none -> i ≠ j -> blockOf (s.κ i) ≠ none -> blockOf (s.κ i) ≠ blockOf (s.κ j)
 glob : ∀ g, rel s (globD g) (.pointer (some ⟨g, 0, none⟩))

end Go.Proofs.YtppebcifiejplaaGreatDoor.Abs
namespace Go.Proofs.YtppebcifiejplaaGreatDoor.Abs
open Go.RowKit

structure St where
 t : Nat -> D
 H : HM
 nx : Nat

def z1f (H : HM) (id : Nat) (o : Option HObj) : HM := fun j => if j = id then o else H j
def zr9 (t : Nat -> D) (i : Nat) (d : D) : Nat -> D := fun j => if j = i then d else t j
def St.put (st : St) (dst : Option Nat) (d : D) : St :=
 match dst with
 | some i => { st with t := zr9 st.t i d }
 | none => st

def zcq : Value -> D
 | .int k n => .int k n
 | .bool b => .bool b
 | .string s => .str s
 | .slice none 0 0 => .nil
 | .pointer none => .nptr
 | .nilFunc => .nfun
 | .map none => .nmp
 | _ => .any
def zra : Value -> D
 | .agg cs => if cs.toList.all (·.oneCell') then .agg (cs.toList.map zcq) else .any
 | v => zcq v

def St.ev (st : St) : Operand -> D
 | .tmp t => st.t t
 | .const v => zra v
 | .global g => globD g
 | .func f => .fn f []

def z04 (P : Program) (t : TypeId) : Bool :=
 match P.underlying t with
 | some (.struct _) | some (.array _ _) => true
 | _ => false
def z0n (P : Program) (t : TypeId) : Bool :=
 match P.underlying t with
 | some (.struct _) | some (.array _ _) | none => false
 | _ => true
def z0x (P : Program) (t : TypeId) : Option TypeId :=
 match P.underlying t with
 | some (.slice e) => some e
 | _ => none
def z3n (P : Program) (t : TypeId) : Option (Nat × TypeId) :=
 match P.underlying t with
 | some (.array n e) => some (n, e)
 | _ => none
def z0y (P : Program) (t : TypeId) (f : Nat) : Option (Nat × TypeId) :=
 match P.underlying t with
 | some (.struct fs) => (fs[f]?).map fun x => (x.offset, x.type)
 | _ => none
def z3q (P : Program) (t : TypeId) : Option IntKind :=
 match P.underlying t with
 | some (.int k) => some k
 | _ => none
def z2n (P : Program) (t : TypeId) : Bool :=
 match P.underlying t with
 | some (.struct fs) => fs.toList.all fun f => (P.info? f.type).isSome
 | _ => false
def z3m (P : Program) (t : TypeId) : Bool :=
 match P.underlying t with
 | some .string => true
 | _ => false
def z1k (P : Program) (t : TypeId) : Bool :=
 match P.underlying t with
 | some .bool => true
 | _ => false
def z3i (P : Program) (t : TypeId) : Option (TypeId × TypeId) :=
 match P.underlying t with
 | some (.map k e) => some (k, e)
 | _ => none
def z0g (P : Program) (t : TypeId) : Bool := ((P.info? t).bind (·.zero)).any fun z => z.cells.size == z02 P t
def z0k (P : Program) (t : TypeId) : Nat := ((P.info? t).map (·.bytes)).getD 0
def z17 (P : Program) (t : TypeId) : Option (List D) :=
 ((P.info? t).bind (·.zero)).bind fun v => if v.cells.size = z02 P t /\ v.cells.toList.all (·.oneCell') then some (v.cells.toList.map zcq) else none

def z4k : D -> Option (List D)
 | .agg ds => some ds
 | .any | .tup _ => none
 | d => some [d]
def z3x (P : Program) (t : TypeId) (cs : List D) (off : Nat) : Option D :=
 if z04 P t = true then (if off + z02 P t <= cs.length then some (.agg ((cs.drop off).take (z02 P t))) else none) else if z0n P t = true then cs[off]? else none
def z8w (P : Program) (t : TypeId) : D -> Bool
 | .agg ds => z04 P t && ds.length == z02 P t
 | .any | .tup _ => false
 | _ => z0n P t

def z3p (P : Program) (H : HM) (t : TypeId) : D -> Option D
 | .ptr id off => match H id with
  | some (.box _ cs) => z3x P t cs off
  | _ => none
 | .eptr id n off => match H id with
  | some (.row _ k cs) => if n = k then z3x P t cs off else none
  | _ => none
 | .rptr d => if z8w P t d = true then some d else none
 | _ => none

def z11 {α : Type} : List α -> Nat -> List α -> List α
 | cs, _, [] => cs
 | cs, off, v :: vs => z11 (cs.set off v) (off + 1) vs

def z5f (P : Program) (H : HM) (t : TypeId) (p v : D) : Option HM :=
 match z4k v with
 | some vs => if vs.length = z02 P t /\ 0 < vs.length then
   (match p with
   | .ptr id off => match H id with
    | some (.box e cs) => if off + vs.length <= cs.length then some (z1f H id (some (.box e (z11 cs off vs)))) else none
    | _ => none
   | .eptr id n off => match H id with
    | some (.row e k cs) => if n = k /\ off + vs.length <= cs.length then some (z1f H id (some (.row e k (z11 cs off vs)))) else none
    | _ => none
   | _ => none) else none
 | none => none

def z37 (P : Program) (s : TypeId) (p : D) (f : Nat) : Option D :=
 match z0y P s f with
 | some (o, t) => if z02 P t = 0 then none else
  match p with
  | .ptr id off => some (.ptr id (off + o))
  | .eptr id n off => some (.eptr id n (off + o))
  | .rptr (.agg ds) => (z3x P t ds o).map .rptr
  | _ => none
 | none => none

def zvz (els : List D) (i : Int) : Option D := if 0 <= i /\ i < els.length then els[i.toNat]? else none

def z0p (P : Program) (H : HM) (t : TypeId) (x i : D) : Option D :=
 match z0x P t with
 | some e =>
  match x, i with
  | .rsl _ sz els, .int _ i => if sz = z02 P e /\ z02 P e ≠ 0 then (zvz els i).map .rptr else none
  | .osl id n, .int _ i => match H id with
   | some (.row e' k _) => if e' = e /\ n = k /\ z02 P e ≠ 0 /\ 0 <= i /\ i < n then some (.eptr id n (i.toNat * z02 P e)) else none
   | _ => none
  | _, _ => none
 | none =>
  match z3n P t with
  | some (len, e) =>
   match x, i with
   | .ptr id off, .int _ i => if z02 P e ≠ 0 /\ 0 <= i /\ i < len then some (.ptr id (off + i.toNat * z02 P e)) else none
   | .eptr id n off, .int _ i => if z02 P e ≠ 0 /\ 0 <= i /\ i < len then some (.eptr id n (off + i.toNat * z02 P e)) else none
   | .rptr (.agg ds), .int _ i => if z02 P e ≠ 0 /\ 0 <= i /\ i < len then (z3x P e ds (i.toNat * z02 P e)).map .rptr else none
   | _, _ => none
  | none => none

def z9q (P : Program) (t : TypeId) (x i : D) : Option D :=
 match z3n P t, x, i with
 | some (len, e), .agg ds, .int _ i => if z02 P e ≠ 0 /\ 0 <= i /\ i < len then z3x P e ds (i.toNat * z02 P e) else none
 | none, .str s, .int _ i => if z3m P t = true /\ 0 <= i then (s[i.toNat]?).map fun b => .int .u8 b.toNat else none
 | _, _, _ => none

def zbb (dflt : Nat) : Option D -> Option Int
 | none => some dflt
 | some (.int _ i) => some i
 | _ => none
def z9r (P : Program) (t : TypeId) (x : D) (lo hi : Option D) : Option D :=
 match z0x P t with
 | some e =>
  match x with
  | .rsl nn sz els => (zbb 0 lo).bind fun l => (zbb els.length hi).bind fun h => if sz = z02 P e /\ z02 P e ≠ 0 /\ 0 <= l /\ l <= h /\ h <= els.length then some (.rsl nn sz ((els.take h.toNat).drop l.toNat)) else none
  | .nil => (zbb 0 lo).bind fun l => (zbb 0 hi).bind fun h => if z02 P e ≠ 0 /\ l = 0 /\ h = 0 then some .nil else none
  | _ => none
 | none => match x with
  | .str s => (zbb 0 lo).bind fun l => (zbb s.size hi).bind fun h => if z3m P t = true /\ 0 <= l /\ l <= h /\ h <= s.size then some (.str (s.extract l.toNat h.toNat)) else none
  | _ => none

def z5a (P : Program) (t : TypeId) (x : D) (lo hi : Option D) (mx : D) : Option D :=
 match z0x P t, lo, hi, mx with
 | some e, none, some (.int _ h), .int _ m => match x with
  | .rsl _ sz els => if sz = z02 P e /\ z02 P e ≠ 0 /\ 0 <= h /\ h = m /\ h <= els.length then some (.fsl sz (els.take h.toNat)) else none
  | .nil => if z02 P e ≠ 0 /\ h = 0 /\ m = 0 then some .nil else none
  | _ => none
 | _, _, _, _ => none
def zhw (place : Nat -> Option (Nat × Nat)) : List D -> List (Nat × D) -> Option (List D)
 | cells, [] => some cells
 | cells, (i, v) :: rest =>
  match place i, z4k v with
  | some (off, size), some vs => if vs.length = size /\ off + vs.length <= cells.length then zhw place (z11 cells off vs) rest else none
  | _, _ => none
def z86 (P : Program) (t : TypeId) (parts : List (Nat × D)) : Option D :=
 match z17 P t with
 | some zs =>
  match P.underlying t with
  | some (.struct _) => if z2n P t = true then (zhw (fun i => (z0y P t i).map fun (o, ft) => (o, z02 P ft)) zs parts).map .agg else none
  | some (.array _ e) => if z02 P e ≠ 0 then (zhw (fun i => some (i * z02 P e, z02 P e)) zs parts).map .agg else none
  | _ => none
 | none => none

def z1h (n : Nat) : List D -> Option (List D)
 | [] => some []
 | d :: ds => match z4k d, z1h n ds with
  | some c, some r => if c.length = n then some (c ++ r) else none
  | _, _ => none

def z1a (eq : TypeId -> D -> D -> Option Bool) (P : Program) (xs ys : List D) : List Field -> Option Bool
 | [] => some true
 | f :: fs =>
  if f.name ≠ "_" then
   match z3x P f.type xs f.offset, z3x P f.type ys f.offset with
   | some a, some b => match eq f.type a b with
    | some r => if r = true then z1a eq P xs ys fs else some false
    | none => none
   | _, _ => none
  else z1a eq P xs ys fs
def eqD (P : Program) : Nat -> TypeId -> D -> D -> Option Bool
 | 0, _, _, _ => none
 | d + 1, t, x, y =>
  match P.underlying t, x, y with
  | some .bool, .bool a, .bool b => some (a == b)
  | some (.int _), .int k a, .int k' b => if k = k' then some (a == b) else none
  | some .string, .str a, .str b => some (decide (a = b))
  | some (.struct fs), .agg xs, .agg ys => if P.stoodInHeld t = false then z1a (eqD P d) P xs ys fs.toList else none
  | _, _, _ => none

def zkv (op : BinOp) (x y : Int) : Option Bool :=
 match op with
 | .eql => some (decide (x = y))
 | .neq => some (decide (x ≠ y))
 | .lss => some (decide (x < y))
 | .leq => some (decide (x <= y))
 | .gtr => some (decide (y < x))
 | .geq => some (decide (y <= x))
 | _ => none
def zw0 (op : BinOp) (k : IntKind) (x y : Int) : Option Int :=
 let a := BitVec.ofInt k.bits x
 let b := BitVec.ofInt k.bits y
 match op with
 | .and => some (k.wrap (a &&& b).toNat)
 | .or => some (k.wrap (a ||| b).toNat)
 | .xor => some (k.wrap (a ^^^ b).toNat)
 | .andNot => some (k.wrap (a &&& ~~~b).toNat)
 | _ => none
def zcr : D -> Option Bool
 | .nil => some true
 | .rsl true _ _ => some false
 | .rsl _ _ (_ :: _) => some false
 | .nptr => some true
 | .rptr _ => some false
 | .nmp => some true
 | _ => none
def zrh (P : Program) (t : TypeId) : Bool :=
 match P.underlying t with
 | some (.pointer _) => true
 | _ => false
def zkw : D -> Option Bool
 | .nptr => some true
 | .rptr _ => some false
 | .ptr _ _ => some false
 | _ => none
def zrb (P : Program) (op : BinOp) (t : TypeId) : D -> D -> Option D
 | .int k a, .int k' b =>
  match op with
  | .shl => if 0 <= b then some (.int k (k.wrap (a * 2 ^ (min b.toNat k.bits)))) else none
  | .shr => if 0 <= b then some (.int k (a.fdiv (2 ^ (min b.toNat k.bits)))) else none
  | .add => if k = k' then some (.int k (k.wrap (a + b))) else none
  | .sub => if k = k' then some (.int k (k.wrap (a - b))) else none
  | .mul => if k = k' then some (.int k (k.wrap (a * b))) else none
  | .quo => if k = k' /\ b ≠ 0 then some (.int k (k.wrap (a.tdiv b))) else none
  | .rem => if k = k' /\ b ≠ 0 then some (.int k (a.tmod b)) else none
  | .and | .or | .xor | .andNot => if k = k' then (zw0 op k a b).map (.int k) else none
  | _ => if k = k' then (zkv op a b).map .bool else none
 | .bool a, .bool b =>
  match op with
  | .eql => if z1k P t = true then some (.bool (a == b)) else none
  | .neq => if z1k P t = true then some (.bool (a != b)) else none
  | _ => none
 | .str a, .str b =>
  match op with
  | .eql => some (.bool (decide (a = b)))
  | .neq => some (.bool (decide (a ≠ b)))
  | .lss => some (.bool (Op.bytesLess a.toList b.toList))
  | .add => if a.size + b.size <= 9223372036854775807 then some (.str (a ++ b)) else none
  | _ => none
 | .agg a, .agg b =>
  match op with
  | .eql => if P.eqGuardType P.depth t = false then (eqD P 8 t (.agg a) (.agg b)).map .bool else none
  | .neq => if P.eqGuardType P.depth t = false then (eqD P 8 t (.agg a) (.agg b)).map fun r => .bool (!r) else none
  | _ => none
 | x, .nil =>
  match z0x P t, op with
  | some _, .eql => match x with
   | .nil | .rsl _ _ _ => (zcr x).map .bool
   | _ => none
  | some _, .neq => match x with
   | .nil | .rsl _ _ _ => (zcr x).map fun r => .bool (!r)
   | _ => none
  | _, _ => none
 | x, .nptr =>
  match op with
  | .eql => if zrh P t = true then (zkw x).map .bool else none
  | .neq => if zrh P t = true then (zkw x).map fun r => .bool (!r) else none
  | _ => none
 | _, _ => none

def unD (op : UnOp) : D -> Option D
 | .bool b => match op with
  | .not => some (.bool (!b))
  | _ => none
 | .int k n => match op with
  | .neg => some (.int k (k.wrap (0 - n)))
  | _ => none
 | _ => none

def zrc (P : Program) (H : HM) (t : TypeId) : D -> Option D
 | .rsl _ _ els => (z0x P t).map fun _ => .int .i64 els.length
 | .nil => (z0x P t).map fun _ => .int .i64 0
 | .osl _ n => (z0x P t).map fun _ => .int .i64 n
 | .mp id => match H id with
  | some (.map es) => (z3i P t).map fun _ => .int .i64 es.length
  | _ => none
 | .str s => if z3m P t = true then some (.int .i64 s.size) else none
 | _ => none
def zf3 (P : Program) (t : TypeId) : Bool :=
 match P.underlying t with
 | some (.int _) | some .string | some .bool => true
 | _ => false
def z8x (P : Program) : List Field -> Nat -> Nat -> Bool
 | [], off, n => off == n
 | f :: fs, off, n => f.offset == off && decide (f.name ≠ "_") && zf3 P f.type && z02 P f.type == 1 && z8x P fs (off + 1) n
def zri (P : Program) (t : TypeId) : Bool :=
 match P.underlying t with
 | some (.int _) => true
 | some .string => true
 | some .bool => true
 | some (.struct fs) => z8x P fs.toList 0 (z02 P t)
 | _ => false
def eqK (P : Program) (kt : TypeId) (k k' : D) : Option Bool := if z8w P kt k = true /\ z8w P kt k' = true then eqD P 8 kt k k' else none
def za9 (P : Program) (kt : TypeId) (k : D) : List (D × D) -> Option (Option (Nat × D))
 | [] => some none
 | (k', v) :: es => match eqK P kt k k' with
  | some true => some (some (0, v))
  | some false => (za9 P kt k es).map (Option.map fun x => (x.1 + 1, x.2))
  | none => none
def zmh (H : HM) (k k' : D) : Option Bool :=
 match k, k' with
 | .ptr i 0, .ptr j 0 => match H i, H j with
  | some (.box _ _), some (.box _ _) => some (decide (i = j))
  | _, _ => none
 | _, _ => none
def zd3 (H : HM) (k : D) : List (D × D) -> Option (Option (Nat × D))
 | [] => some none
 | (k', v) :: es => match zmh H k k' with
  | some true => some (some (0, v))
  | some false => (zd3 H k es).map (Option.map fun x => (x.1 + 1, x.2))
  | none => none
def zyx (P : Program) (t : TypeId) : Bool :=
 match P.underlying t with
 | some (.pointer e) => decide (z02 P e ≠ 0) && (P.info? e).isSome
 | _ => false
def z8y : List (D × D) -> Nat -> D -> List (D × D)
 | [], _, _ => []
 | e :: es, 0, x => (e.1, x) :: es
 | e :: es, i + 1, x => e :: z8y es i x
def esD (H : HM) : D -> Option (List (D × D))
 | .nmp => some []
 | .mp id => match H id with
  | some (.map es) => some es
  | _ => none
 | _ => none
def zkx (P : Program) (t : TypeId) : Option D := ((P.info? t).bind (·.zero)).map zra
def zrd (z : Option D) (ok : Bool) : Option (Option (Nat × D)) -> Option D
 | some (some (_, v)) => some (if ok = true then .tup [v, .bool true] else v)
 | some none => z.map fun z => if ok = true then .tup [z, .bool false] else z
 | none => none
def z6q (P : Program) (H : HM) (t : TypeId) (x k : D) (ok : Bool) : Option D :=
 match z3i P t, esD H x with
 | some (kt, et), some es => if zri P kt = true /\ z8w P kt k = true then zrd (zkx P et) ok (za9 P kt k es) else if zyx P kt = true then zrd (zkx P et) ok (zd3 H k es) else none
 | _, _ => none
def updR (es : List (D × D)) (k x : D) : Option (Option (Nat × D)) -> Option HObj
 | some (some (i, _)) => some (.map (z8y es i x))
 | some none => some (.map (es ++ [(k, x)]))
 | none => none
def z8z (P : Program) (H : HM) (t : TypeId) (m k x : D) : Option HM :=
 match z3i P t, m with
 | some (kt, _), .mp id => match H id with
  | some (.map es) => if zri P kt = true /\ z8w P kt k = true then (updR es k x (za9 P kt k es)).map fun o => z1f H id (some o) else if zyx P kt = true then (updR es k x (zd3 H k es)).map fun o => z1f H id (some o) else none
  | _ => none
 | _, _ => none
def maxD : D -> D -> Option D
 | .int k x, .int _ y => some (.int k (max x y))
 | _, _ => none
def minD : D -> D -> Option D
 | .int k x, .int _ y => some (.int k (min x y))
 | _, _ => none
def zfv (c a b : D) : Option D :=
 match c with
 | .bool t => match a, b with
  | .bool x, .bool y => some (.bool (if t = true then x else y))
  | a, b => some (if t = true then a else b)
 | _ => none

def z7w (H : HM) (e : TypeId) (n : Nat) : D -> Option (Nat × List D)
 | .rsl _ sz els => if sz = n then (z1h n els).map fun cs => (els.length, cs) else none
 | .nil => some (0, [])
 | .osl id k => match H id with
  | some (.row e' k' cs) => if e' = e /\ k = k' then some (k, cs) else none
  | _ => none
 | _ => none
def z63 (P : Program) (H : HM) (nx : Nat) (t : TypeId) (x y : D) : Option (D × HM × Nat) :=
 match z0x P t with
 | some e => if 0 < z02 P e /\ z0g P e = true then
   (z7w H e (z02 P e) y).bind fun (m, news) =>
    match x with
    | .nil => if m * z0k P e <= 140737488355328 /\ m <= maxLen then some (.osl nx m, z1f H nx (some (.row e m news)), nx + 1) else none
    | .osl id n => match H id with
     | some (.row e' k cs) => if e' = e /\ n = k /\ (n + m) * z0k P e <= 140737488355328 /\ n + m <= maxLen then some (.osl id (n + m), z1f H id (some (.row e (n + m) (cs ++ news))), nx) else none
     | _ => none
    | .fsl sz els => if m = 0 then some (.fsl sz els, H, nx) else if sz = z02 P e /\ (els.length + m) * z0k P e <= 140737488355328 /\ els.length + m <= maxLen then (z1h sz els).map fun cs => (.osl nx (els.length + m), z1f H nx (some (.row e (els.length + m) (cs ++ news))), nx + 1) else none
    | _ => none
  else none
 | none => none

def z1m (ag : Bool) (sz : Nat) : Nat -> List D -> List D
 | 0, _ => []
 | n + 1, cs => (if ag = true then .agg (cs.take sz) else (cs[0]?).getD .any) :: z1m ag sz n (cs.drop sz)
def zky (P : Program) (e : TypeId) : Bool := z04 P e || (!z04 P e && z02 P e == 1)
def zf4 (P : Program) (H : HM) (t : TypeId) (x y : D) : Option D :=
 match z0x P t with
 | some e => if 0 < z02 P e /\ z0g P e = true /\ zky P e = true then
   (z7w H e (z02 P e) y).bind fun (m, news) =>
    if m * z0k P e <= 140737488355328 /\ m <= maxLen /\ pureD.pureL news = true then
     match x with
     | .e0 => some (.rsl false (z02 P e) (z1m (z04 P e) (z02 P e) m news))
     | .nil => some (.rsl false (z02 P e) (z1m (z04 P e) (z02 P e) m news))
     | .fsl sz els => if 0 < m /\ sz = z02 P e /\ (els.length + m) * z0k P e <= 140737488355328 /\ els.length + m <= maxLen then (z1h sz els).bind fun cs => if pureD.pureL cs = true then some (.rsl true (z02 P e) (z1m (z04 P e) (z02 P e) (els.length + m) (cs ++ news))) else none else none
     | _ => none
    else none
  else none
 | none => none
def zc6 (P : Program) : D × HM × Nat -> Option (D × HM × Nat)
 | (.osl id n, H, nx) => match H id with
  | some (.row e k cs) => if n = k /\ zky P e = true /\ pureD.pureL cs = true then some (.rsl false (z02 P e) (z1m (z04 P e) (z02 P e) n cs), z1f H id none, nx) else none
  | _ => none
 | (.fsl sz els, H, nx) => some (.rsl false sz els, H, nx)
 | _ => none
def zfw (own : List Nat) : Option Nat -> Bool
 | some i => own.any fun s => s == i
 | none => false
def z0h (base : Nat) (own : List Nat) : Option Nat -> Bool
 | some i => own.any fun s => s == i + base
 | none => false
def z2a : List Nat -> Nat
 | [] => 0
 | s :: l => if 8000000 <= s then s - 8000000 else z2a l
def cutB (B : Nat) (H : HM) : HM := fun id => if id < B then H id else none
def z9k (P : Program) (H : HM) (nx : Nat) (t : TypeId) : D -> Option D
 | .ptr id off => if id < nx then z3p P H t (.ptr id off) else none
 | .rptr d => z3p P H t (.rptr d)
 | _ => none
def zaa (P : Program) (own : List Nat) (dst : Option Nat) (H : HM) (nx : Nat) (t : TypeId) (d : D) : Option D :=
 if z0h 3000000 own dst = true then z9k P H nx t d else if z0h 6000000 own dst = true then z3p P (cutB (z2a own) H) t d else z3p P H t d
theorem zyy {P : Program} {B : Nat} {H : HM} {t : TypeId} {p d : D} (h : z3p P (cutB B H) t p = some d) : z3p P H t p = some d := by
 have key : ∀ id o, cutB B H id = some o -> H id = some o := fun id o ho => by
  unfold cutB at ho; split at ho
  ·exact ho
  ·cases ho
 unfold z3p at h ⊢
 split at h <;> first | exact h | skip
 ·rename_i id off
  split at h
  ·rename_i hid; rw [key _ _ hid]; exact h
  ·cases h
 ·rename_i id n off
  split at h
  ·rename_i hid; rw [key _ _ hid]; exact h
  ·cases h
theorem zre {P : Program} {own : List Nat} {dst : Option Nat} {H : HM} {nx : Nat} {t : TypeId} {p d : D} (h : zaa P own dst H nx t p = some d) : z3p P H t p = some d := by
 unfold zaa at h
 split at h
 ·unfold z9k at h
  split at h
  ·split at h
   ·exact h
   ·cases h
  ·exact h
  ·cases h
 ·split at h
  ·exact zyy h
  ·exact h
def hmG (own : List Nat) (dst : Option Nat) (H : HM) : HM := if z0h 3000000 own dst = true then fun _ => none else if z0h 6000000 own dst = true then cutB (z2a own) H else H
theorem znz {own : List Nat} {dst : Option Nat} {H : HM} {id : Nat} {o : HObj} (h : hmG own dst H id = some o) : H id = some o := by
 unfold hmG at h
 split at h
 ·cases h
 ·split at h
  ·unfold cutB at h
   split at h
   ·exact h
   ·cases h
  ·exact h
theorem zf5 {P : Program} {own : List Nat} {dst : Option Nat} {H : HM} {t : TypeId} {x i d : D} (h : z0p P (hmG own dst H) t x i = some d) : z0p P H t x i = some d := by
 unfold z0p at h ⊢
 cases he : z0x P t with
 | some e =>
  rw [he] at h
  cases x <;> first | (exact h; done) | skip
  all_goals (cases i <;> first | (exact h; done) | (cases h; done) | (simp only [reduceCtorEq] at h; done) | skip)
  all_goals
   simp only at h ⊢
   split at h
   ·rename_i hid
    rw [znz hid]; exact h
   ·cases h
 | none => rw [he] at h; exact h
theorem zw1 {P : Program} {own : List Nat} {dst : Option Nat} {H : HM} {t : TypeId} {x d : D} (h : zrc P (hmG own dst H) t x = some d) : zrc P H t x = some d := by
 unfold zrc at h ⊢
 cases x <;> first | (exact h; done) | (cases h; done) | skip
 all_goals
  simp only at h ⊢
  split at h
  ·rename_i hid
   rw [znz hid]; exact h
  ·cases h
def z6r : List Nat -> Nat -> Nat -> Bool
 | [], k, n => k == n
 | i :: is, k, n => i == k && z6r is (k + 1) n
def St.keep (st : St) (d : Option D) : Option (D × HM × Nat) := d.map fun d => (d, st.H, st.nx)
def zf6 (P : Program) (t : TypeId) : D -> Option Obj
 | .str s => if z3m P t = true then some (.stringIter s 0) else none
 | _ => none
def zmi (H : HM) (nx : Nat) (b : Bool) : D -> Option (D × HM × Nat)
 | .it id => match H id, b with
  | some (.raw (.stringIter s p)), true => if p < s.size then some (.tup [.bool true, .int .i64 p, .int .i32 (Utf8.decode s p).1], z1f H id (some (.raw (.stringIter s (p + (Utf8.decode s p).2)))), nx)
    else some (.tup [.bool false], H, nx)
  | _, _ => none
 | _ => none
def zw2 (s : ByteArray) : List D := s.data.toList.map fun b => .int .u8 b.toNat
def zf7 : List D -> Option (List UInt8)
 | [] => some []
 | .int .u8 n :: l => if 0 <= n /\ n <= 255 then (zf7 l).map (UInt8.ofNat n.toNat :: ·) else none
 | _ => none
def u8T (P : Program) (t : TypeId) : Bool := match z0x P t with
 | some e => match z3q P e with
  | some .u8 => true
  | _ => false
 | none => false
def zyz (P : Program) (src dst : TypeId) : D -> Option D
 | .str s => if z3m P src = true /\ u8T P dst = true /\ s.size <= 9223372036854775807 then some (.rsl true 1 (zw2 s)) else none
 | .rsl _ 1 els => if u8T P src = true /\ z3m P dst = true then (zf7 els).map fun l => .str ⟨l.toArray⟩ else none
 | _ => none
def convD (P : Program) (src dst : TypeId) (x : D) : Option D :=
 match z3q P src, z3q P dst, x with
 | some _, some k, .int _ n => some (.int k (k.wrap n))
 | _, _, d => zyz P src dst d
def opR (P : Program) (own : List Nat) (o : Oper) (st : St) : Option (D × HM × Nat) :=
 match o.op with
 | .move x => some (st.ev x, st.H, st.nx)
 | .assign x =>
  match st.ev x with
  | .nil => if zfw own o.dst = true then (z0x P o.type).map fun e => (.osl st.nx 0, z1f st.H st.nx (some (.row e 0 [])), st.nx + 1) else some (.nil, st.H, st.nx)
  | d => some (d, st.H, st.nx)
 | .pick c a b => st.keep (zfv (st.ev c) (st.ev a) (st.ev b))
 | .alloc e => (z17 P e).map fun zs => (.ptr st.nx 0, z1f st.H st.nx (some (.box e zs)), st.nx + 1)
 | .box e x => (z4k (st.ev x)).map fun cs => (.ptr st.nx 0, z1f st.H st.nx (some (.box e cs)), st.nx + 1)
 | .build t parts => st.keep (z86 P t (parts.toList.map fun (i, x) => (i, st.ev x)))
 | .buildSlice t len parts =>
  match z0x P t with
  | some e =>
   let els := parts.toList.map fun x => st.ev x.2
   if z02 P e ≠ 0 /\ z6r (parts.toList.map (·.1)) 0 len = true /\ len * z02 P e <= 16777216 /\ (len = 0 \/ z0g P e = true) then
    (z1h (z02 P e) els).bind fun cs =>
     if zfw own o.dst = true then some (.osl st.nx len, z1f st.H st.nx (some (.row e len cs)), st.nx + 1)
     else if z0h 1000000 own o.dst = true /\ len = 0 then some (.e0, st.H, st.nx)
     else some (.rsl true (z02 P e) els, st.H, st.nx)
   else none
  | none => none
 | .load t p => st.keep (zaa P own o.dst st.H st.nx t (st.ev p))
 | .store t p v => (z5f P st.H t (st.ev p) (st.ev v)).map fun H => (.any, H, st.nx)
 | .binOp op t x y _ => st.keep (zrb P op t (st.ev x) (st.ev y))
 | .unOp op _ x => st.keep (unD op (st.ev x))
 | .convert src dst x => st.keep (convD P src dst (st.ev x))
 | .makeFunc fn first cap => match fn with
  | .func f => if first.size = 0 then some (.fn f (cap.toList.map st.ev), st.H, st.nx) else if cap.size = 0 then some (.bfn f (first.toList.map st.ev), st.H, st.nx) else none
  | _ => none
 | .makeMap t none => (z3i P t).map fun _ => (.mp st.nx, z1f st.H st.nx (some (.map [])), st.nx + 1)
 | .range t x => (zf6 P t (st.ev x)).map fun q => (.it st.nx, z1f st.H st.nx (some (.raw q)), st.nx + 1)
 | .next x b => zmi st.H st.nx b (st.ev x)
 | .lookup t x k ok => st.keep (z6q P st.H t (st.ev x) (st.ev k) ok)
 | .mapUpdate t m k x => (z8z P st.H t (st.ev m) (st.ev k) (st.ev x)).map fun H => (.any, H, st.nx)
 | .insert t m k x => (z8z P st.H t (st.ev m) (st.ev k) (st.ev x)).map fun H => (.any, H, st.nx)
 | .makeSlice t l c =>
  match z0x P t, st.ev l, st.ev c with
  | some e, .int _ l, .int _ c => if l = c /\ 0 <= l /\ l.toNat * z0k P e <= 140737488355328 /\ l <= 9223372036854775807 /\ 0 < z02 P e then
    (z17 P e).map fun zs => (.osl st.nx l.toNat, z1f st.H st.nx (some (.row e l.toNat (List.replicate l.toNat zs).flatten)), st.nx + 1) else none
  | _, _, _ => none
 | .slice t x lo hi mx => match mx with
  | none => st.keep (z9r P t (st.ev x) (lo.map st.ev) (hi.map st.ev))
  | some m => st.keep (z5a P t (st.ev x) (lo.map st.ev) (hi.map st.ev) (st.ev m))
 | .fieldAddr s x f => st.keep (z37 P s (st.ev x) f)
 | .field t x f => match z0y P t f, st.ev x with
  | some (o, ft), .agg ds => st.keep (z3x P ft ds o)
  | _, _ => none
 | .indexAddr t x i => st.keep (z0p P (hmG own o.dst st.H) t (st.ev x) (st.ev i))
 | .index t x i => st.keep (z9q P t (st.ev x) (st.ev i))
 | .extract x i => match st.ev x with
  | .tup ds => st.keep ds[i]?
  | _ => none
 | .nilCheck x => match st.ev x with
  | .rptr d => some (.rptr d, st.H, st.nx)
  | .ptr id off => some (.ptr id off, st.H, st.nx)
  | _ => none
 | .call c => match c.callee with
  | .builtin b => match b, c.args.toList, c.argTypes.toList with
   | .len, [x], [t] => st.keep (zrc P (hmG own o.dst st.H) t (st.ev x))
   | .max, [x, y], _ => st.keep (maxD (st.ev x) (st.ev y))
   | .min, [x, y], _ => st.keep (minD (st.ev x) (st.ev y))
   | .append, [x, y], [t, u] => if t = u then
     (if z0h 1000000 own o.dst = true then st.keep (zf4 P st.H t (st.ev x) (st.ev y))
     else if z0h 2000000 own o.dst = true then (z63 P st.H st.nx t (st.ev x) (st.ev y)).bind (zc6 P)
     else z63 P st.H st.nx t (st.ev x) (st.ev y)) else none
   | _, _, _ => none
  | _ => none
 | _ => none

end Go.Proofs.YtppebcifiejplaaGreatDoor.Abs
namespace Go.Proofs.YtppebcifiejplaaGreatDoor.Abs
open Go.RowKit

theorem zkz {w w' : World} {base : Nat} {e : TypeId} {sz : Nat} {v : Value} {n : Nat} {vs : List Value}
  (hb : ∀ b, blockOf v = some b -> w'.heap[b]? = w.heap[b]?) (h : w.ownsRow base e sz v n vs) : w'.ownsRow base e sz v n vs := by
 refine ⟨h.1, ?_⟩
 rcases h.2 with h2 | ⟨g, cap, cur, hv, hg, hh, r⟩
 ·exact .inl h2
 ·exact .inr ⟨g, cap, cur, hv, hg, by rw [hb g (by rw [hv]; rfl)]; exact hh, r⟩

theorem objOK.mono {P : Program} {s s' : RS} {w w' : World} {v : Value} {o : HObj} (hl : Later s s')
  (hb : ∀ b, blockOf v = some b -> w'.heap[b]? = w.heap[b]?) (h : objOK P s w v o) : objOK P s' w' v o := by
 cases o with
 | box e cs =>
  obtain ⟨b, vs, hv, hh, hr, h1⟩ := h
  exact ⟨b, vs, hv, by rw [hb b (by rw [hv]; rfl)]; exact hh, relAll.later hl _ _ hr, h1⟩
 | row e n cs =>
  obtain ⟨vs, ho, hr, h1⟩ := h
  exact ⟨vs, zkz hb ho, relAll.later hl _ _ hr, h1⟩
 | map es =>
  obtain ⟨r, ens, c, hv, hh, h1, h2⟩ := h
  exact ⟨r, ens, c, hv, by rw [hb r (by rw [hv]; rfl)]; exact hh, relAll.later hl _ _ h1, relAll.later hl _ _ h2.1, h2.2⟩
 | raw q =>
  obtain ⟨r, hv, hh⟩ := h
  exact ⟨r, hv, by rw [hb r (by rcases hv with hv | hv <;> rw [hv] <;> rfl)]; exact hh⟩
theorem z78 {w : World} {b : Nat} {o : Obj} (h : w.heap[b]? = some o) : b < w.heap.size := (Array.getElem?_eq_some_iff.1 h).1
theorem objOK.lt {P : Program} {s : RS} {w : World} {v : Value} {o : HObj} (h : objOK P s w v o) {b : Nat} (hb : blockOf v = some b) : b < w.heap.size := by
 cases o with
 | box e cs =>
  obtain ⟨b', vs, hv, hh, _⟩ := h
  rw [hv] at hb; cases hb; exact z78 hh
 | row e n cs =>
  obtain ⟨vs, ho, _⟩ := h
  rcases ho.2 with ⟨hv, _⟩ | ⟨g, cap, cur, hv, _, hh, _⟩
  ·rw [hv] at hb; cases hb
  ·rw [hv] at hb; cases hb; exact z78 hh
 | map es =>
  obtain ⟨r, ens, c, hv, hh, _⟩ := h
  rw [hv] at hb; cases hb; exact z78 hh
 | raw q =>
  obtain ⟨r, hv, hh⟩ := h
  rcases hv with hv | hv <;> rw [hv] at hb <;> cases hb <;> exact z78 hh
theorem RH.owned_lt {P : Program} {s : RS} {w : World} (h : RH P s w) {k : Nat} (ho : owned s k) : k < w.heap.size := by
 obtain ⟨id, _, hH, hb⟩ := ho
 cases hs : s.H id with
 | none => exact (hH hs).elim
 | some o => exact (h.obj id o hs).2.lt hb
theorem RH.mem_lt {P : Program} {s : RS} {w : World} (h : RH P s w) {a : Addr} {v : Value} (hm : s.m a = some v) : a.block < w.heap.size :=
 World.block_lt_of_cell? w a (h.mem a v hm).1
theorem z44 {w w' : World} {a : Addr} (h : w'.heap[a.block]? = w.heap[a.block]?) : w'.cell? a = w.cell? a := World.cell?_of_block h

structure Grew (w w' : World) : Prop where
 os : w'.os = w.os
 tape : w'.tape = w.tape
 output : w'.output = w.output
 size : w.heap.size <= w'.heap.size
 old : ∀ k, k < w.heap.size -> w'.heap[k]? = w.heap[k]?
theorem Grew.refl (w : World) : Grew w w := ⟨rfl, rfl, rfl, Nat.le_refl _, fun _ _ => rfl⟩
theorem Grew.alloc (w : World) (o : Obj) : Grew w (w.alloc o) := ⟨rfl, rfl, rfl, by simp, fun k O => Below.heap_alloc w o k O⟩
theorem Grew.drew {w w' : World} (h : Grew w w') : Grew w.drew w' := ⟨h.os, h.tape, h.output, h.size, h.old⟩
theorem Grew.of_drew {w w' : World} (h : Grew w.drew w') : Grew w w' := ⟨h.os, h.tape, h.output, h.size, h.old⟩

def RS.add (s : RS) (v : Value) (o : HObj) : RS := { s with κ := fun j => if j = s.nx then v else s.κ j, H := z1f s.H s.nx (some o), nx := s.nx + 1 }

theorem RH.fresh {P : Program} {s : RS} {w : World} (h : RH P s w) {i : Nat} (hi : s.H i ≠ none) : i < s.nx := by
 cases hs : s.H i with
 | none => exact (hi hs).elim
 | some o => exact (h.obj i o hs).1

theorem z90 {P : Program} {s : RS} {w : World} (_h : RH P s w) (v : Value) (o : HObj) : Later s (s.add v o) := by
 refine ⟨by simp [RS.add], fun a u hm => hm, fun id hid => ?_⟩
 have : id ≠ s.nx := by omega
 simp only [RS.add, z1f, if_neg this]
 exact objLe.refl _ _

theorem z5b {P : Program} {s : RS} {w w' : World} (h : RH P s w) (hg : Grew w w') (o : HObj) (v : Value)
  (hb : ∀ b, blockOf v = some b -> w.heap.size <= b) (hok : objOK P (s.add v o) w' v o) :
  Step s w (s.add v o) w' /\ RH P (s.add v o) w' := by
 have hl := z90 h v o
 have hown : ∀ k, owned (s.add v o) k -> owned s k \/ w.heap.size <= k := by
  rintro k ⟨id, hid, hH, O⟩
  by_cases hi : id = s.nx
  ·subst hi
   simp only [RS.add, if_true] at O
   exact .inr (hb k O)
  ·simp only [RS.add, z1f, if_neg hi] at hH O
   exact .inl ⟨id, h.fresh hH, hH, O⟩
 refine ⟨⟨hg.os, hg.tape, hg.output, hg.size, hl.nx, hl.mem, fun a u hm => .inl hm, hl.objs, fun k O _ => hg.old k O, hown⟩, ?_, ?_, ?_, fun g => rel.later hl _ _ (h.glob g)⟩
 ·intro a u hm
  have hlt := h.mem_lt hm
  obtain ⟨h1, h2⟩ := h.mem a u hm
  refine ⟨by rw [z44 (hg.old _ hlt)]; exact h1, fun ho => ?_⟩
  rcases hown _ ho with h3 | h3
  ·exact h2 h3
  ·omega
 ·intro id o' ho'
  by_cases hi : id = s.nx
  ·subst hi
   simp only [RS.add, z1f, if_true, Option.some.injEq] at ho' ⊢
   subst ho'
   exact ⟨by omega, hok⟩
  ·simp only [RS.add, z1f, if_neg hi] at ho' ⊢
   obtain ⟨h1, h2⟩ := h.obj id o' ho'
   exact ⟨by omega, h2.mono hl fun b hb' => hg.old b (h2.lt hb')⟩
 ·intro i j hi hj hij hbi
  by_cases h1 : i = s.nx
  ·subst h1
   have h2 : j ≠ s.nx := fun e => hij e.symm
   simp only [RS.add, z1f, if_true, if_neg h2] at hi hj hbi ⊢
   intro e
   cases hbv : blockOf v with
   | none => exact hbi hbv
   | some b =>
    cases hs : s.H j with
    | none => exact hj hs
    | some oj =>
     have := (h.obj j oj hs).2.lt (b := b) (by rw [<- e, hbv])
     have := hb b hbv
     omega
  ·by_cases h2 : j = s.nx
   ·subst h2
    simp only [RS.add, z1f, if_true, if_neg h1] at hi hj hbi ⊢
    intro e
    cases hbv : blockOf v with
    | none => rw [hbv] at e; exact hbi e
    | some b =>
     cases hs : s.H i with
     | none => exact hi hs
     | some oi =>
      have := (h.obj i oi hs).2.lt (b := b) (by rw [e, hbv])
      have := hb b hbv
      omega
   ·simp only [RS.add, z1f, if_neg h1, if_neg h2] at hi hj hbi ⊢
    exact h.apart i j hi hj hij hbi

def RS.grow (s : RS) (w w' : World) : RS := { s with m := fun a => if a.block < w.heap.size then s.m a else w'.cell? a }

theorem z91 {P : Program} {s : RS} {w w' : World} (h : RH P s w) (hg : Grew w w') :
  Step s w (s.grow w w') w' /\ RH P (s.grow w w') w' := by
 have hmem : ∀ a v, s.m a = some v -> (s.grow w w').m a = some v := by
  intro a v hm
  simp only [RS.grow, if_pos (h.mem_lt hm)]
  exact hm
 have hl : Later s (s.grow w w') := ⟨Nat.le_refl _, hmem, fun id _ => objLe.refl _ _⟩
 refine ⟨⟨hg.os, hg.tape, hg.output, hg.size, Nat.le_refl _, hmem, fun a v hm => ?_, fun id _ => objLe.refl _ _, fun k O _ => hg.old k O, fun k ho => .inl ho⟩, ?_, ?_, ?_, fun g => rel.later hl _ _ (h.glob g)⟩
 ·simp only [RS.grow] at hm
  split at hm
  ·exact .inl hm
  ·exact .inr (.inl (by omega))
 ·intro a v hm
  simp only [RS.grow] at hm
  split at hm
  ·rename_i hlt
   obtain ⟨h1, h2⟩ := h.mem a v hm
   exact ⟨by rw [z44 (hg.old _ hlt)]; exact h1, h2⟩
  ·rename_i hlt
   refine ⟨hm, fun ho => hlt (h.owned_lt ho)⟩
 ·intro id o ho
  obtain ⟨h1, h2⟩ := h.obj id o ho
  exact ⟨h1, h2.mono hl fun b hb' => hg.old b (h2.lt hb')⟩
 ·exact h.apart

theorem zf8 {P : Program} {s : RS} {w w' : World} (h : RH P s w) (hh : w'.heap = w.heap) (ho : w'.os = w.os) (ht : w'.tape = w.tape) (hout : w'.output = w.output) :
  Step s w s w' /\ RH P s w' := by
 refine ⟨⟨ho, ht, hout, by rw [hh]; exact Nat.le_refl _, Nat.le_refl _, fun _ _ h => h, fun _ _ h => .inl h, fun _ _ => objLe.refl _ _, fun k _ _ => by rw [hh], fun _ h => .inl h⟩, ?_, ?_, h.apart, h.glob⟩
 ·intro a v hm
  obtain ⟨h1, h2⟩ := h.mem a v hm
  exact ⟨by rw [z44 (w := w) (w' := w') (by rw [hh])]; exact h1, h2⟩
 ·intro id o hs
  obtain ⟨h1, h2⟩ := h.obj id o hs
  exact ⟨h1, h2.mono ⟨Nat.le_refl _, fun _ _ h => h, fun _ _ => objLe.refl _ _⟩ fun b _ => by rw [hh]⟩

def RS.set (s : RS) (id : Nat) (v : Value) (o : HObj) : RS := { s with κ := fun j => if j = id then v else s.κ j, H := z1f s.H id (some o) }

theorem zab {P : Program} {s : RS} {w w' : World} (h : RH P s w) (id : Nat) (o o' : HObj) (v : Value) (hid : s.H id = some o)
  (hos : w'.os = w.os) (ht : w'.tape = w.tape) (hout : w'.output = w.output) (hsz : w.heap.size <= w'.heap.size)
  (hold : ∀ k, k < w.heap.size -> some k ≠ blockOf (s.κ id) -> w'.heap[k]? = w.heap[k]?)
  (hle : objLe (some o) (some o') (s.κ id) v)
  (hb : ∀ b, blockOf v = some b -> blockOf (s.κ id) = some b \/ w.heap.size <= b) (hok : Later s (s.set id v o') -> objOK P (s.set id v o') w' v o') :
  Step s w (s.set id v o') w' /\ RH P (s.set id v o') w' := by
 have hidn := (h.obj id o hid).1
 have hl : Later s (s.set id v o') := by
  refine ⟨Nat.le_refl _, fun a u hm => hm, fun j hj => ?_⟩
  by_cases hji : j = id
  ·subst hji; simp only [RS.set, z1f, if_true]; rw [hid]; exact hle
  ·simp only [RS.set, z1f, if_neg hji]; exact objLe.refl _ _
 have hok := hok hl
 have hown : ∀ k, owned (s.set id v o') k -> owned s k \/ w.heap.size <= k := by
  rintro k ⟨j, hj, hH, O⟩
  by_cases hji : j = id
  ·subst hji
   simp only [RS.set, if_true] at O
   rcases hb k O with h1 | h1
   ·exact .inl ⟨j, hidn, by rw [hid]; simp, h1⟩
   ·exact .inr h1
  ·simp only [RS.set, z1f, if_neg hji] at hH O
   exact .inl ⟨j, hj, hH, O⟩
 refine ⟨⟨hos, ht, hout, hsz, hl.nx, hl.mem, fun a u hm => .inl hm, hl.objs, fun k O ho => hold k O (fun e => ho ⟨id, hidn, by rw [hid]; simp, e.symm⟩), hown⟩, ?_, ?_, ?_, fun g => rel.later hl _ _ (h.glob g)⟩
 ·intro a u hm
  have hlt := h.mem_lt hm
  obtain ⟨h1, h2⟩ := h.mem a u hm
  have hne : some a.block ≠ blockOf (s.κ id) := fun e => h2 ⟨id, hidn, by rw [hid]; simp, e.symm⟩
  refine ⟨by rw [z44 (hold _ hlt hne)]; exact h1, fun ho => ?_⟩
  rcases hown _ ho with h3 | h3
  ·exact h2 h3
  ·omega
 ·intro j oj ho'
  by_cases hji : j = id
  ·subst hji
   simp only [RS.set, z1f, if_true, Option.some.injEq] at ho' ⊢
   subst ho'
   exact ⟨hidn, hok⟩
  ·simp only [RS.set, z1f, if_neg hji] at ho' ⊢
   obtain ⟨h1, h2⟩ := h.obj j oj ho'
   refine ⟨h1, h2.mono hl fun b hb' => hold b (h2.lt hb') fun e => ?_⟩
   exact h.apart j id (by rw [ho']; simp) (by rw [hid]; simp) hji (by rw [hb']; simp) (by rw [hb', e])
 ·intro i j hi hj hij hbi
  by_cases h1 : i = id
  ·subst h1
   have h2 : j ≠ i := fun e => hij e.symm
   simp only [RS.set, z1f, if_true, if_neg h2] at hi hj hbi ⊢
   intro e
   cases hbv : blockOf v with
   | none => exact hbi hbv
   | some b =>
    cases hs : s.H j with
    | none => exact hj hs
    | some oj =>
     have hlt := (h.obj j oj hs).2.lt (b := b) (by rw [<- e, hbv])
     rcases hb b hbv with h3 | h3
     ·exact h.apart j i hj (by rw [hid]; simp) h2 (by rw [<- e, hbv]; simp) (by rw [<- e, hbv, h3])
     ·omega
  ·by_cases h2 : j = id
   ·subst h2
    simp only [RS.set, z1f, if_true, if_neg h1] at hi hj hbi ⊢
    intro e
    cases hbv : blockOf v with
    | none => rw [hbv] at e; exact hbi e
    | some b =>
     cases hs : s.H i with
     | none => exact hi hs
     | some oi =>
      have hlt := (h.obj i oi hs).2.lt (b := b) (by rw [e, hbv])
      rcases hb b hbv with h3 | h3
      ·exact h.apart i j hi (by rw [hid]; simp) h1 hbi (by rw [e, hbv, h3])
      ·omega
   ·simp only [RS.set, z1f, if_neg h1, if_neg h2] at hi hj hbi ⊢
    exact h.apart i j hi hj hij hbi

end Go.Proofs.YtppebcifiejplaaGreatDoor.Abs
namespace Go.Proofs.YtppebcifiejplaaGreatDoor.Abs
open Go.RowKit
variable {P : Program}

theorem zhx : z5t [] := fun _ h => by cases h
theorem zz0 {v : Value} (h : v.oneCell' = true) : z5t [v] := by
 intro u hu; simp at hu; subst hu; exact h
theorem z3y {vs us : List Value} (h : z5t vs) (h' : z5t us) : z5t (vs ++ us) := by
 intro u hu; rcases List.mem_append.1 hu with h1 | h1
 ·exact h u h1
 ·exact h' u h1
theorem zf9 {vs : List Value} (h : z5t vs) (n : Nat) : z5t (vs.take n) := fun u hu => h u (List.mem_of_mem_take hu)
theorem zfa {vs : List Value} (h : z5t vs) (n : Nat) : z5t (vs.drop n) := fun u hu => h u (List.mem_of_mem_drop hu)
theorem z21 {v : Value} (h : v.oneCell' = true) : v.cells = #[v] := by cases v <;> simp_all [Value.cells, Value.oneCell']

theorem z92 {s : RS} {d : D} {v : Value} {ds : List D} (h : rel s d v) (hc : z4k d = some ds) : relAll s ds v.cells.toList /\ z5t v.cells.toList := by
 have one : ∀ (d : D), z4k d = some [d] -> v.oneCell' = true -> rel s d v -> z4k d = some ds -> relAll s ds v.cells.toList /\ z5t v.cells.toList := by
  intro d h1 h2 h3 h4
  rw [h1] at h4; cases h4
  rw [z21 h2]
  exact ⟨z0m h3 z0q, zz0 h2⟩
 cases d with
 | any => simp [z4k] at hc
 | tup ds => simp [z4k] at hc
 | agg es =>
  simp only [z4k, Option.some.injEq] at hc; subst hc
  simp only [rel] at h
  obtain ⟨vs, rfl, h2, h3⟩ := h
  simp only [Value.cells]
  exact ⟨h2, h3⟩
 | int k n => exact one _ rfl (by simp only [rel] at h; subst h; rfl) h hc
 | bool b => exact one _ rfl (by simp only [rel] at h; subst h; rfl) h hc
 | str b => exact one _ rfl (by simp only [rel] at h; subst h; rfl) h hc
 | nil => exact one _ rfl (by simp only [rel] at h; subst h; rfl) h hc
 | nptr => exact one _ rfl (by simp only [rel] at h; subst h; rfl) h hc
 | nfun => exact one _ rfl (by simp only [rel] at h; subst h; rfl) h hc
 | nmp => exact one _ rfl (by simp only [rel] at h; subst h; rfl) h hc
 | e0 => exact one _ rfl (by simp only [rel] at h; obtain ⟨a, rfl⟩ := h; rfl) h hc
 | rsl nn sz els =>
  refine one _ rfl ?_ h hc
  simp only [rel] at h
  rcases h with ⟨_, _, rfl⟩ | ⟨a, cap, vs, rfl, _⟩ <;> rfl
 | rptr d =>
  refine one _ rfl ?_ h hc
  simp only [rel] at h
  obtain ⟨a, u, rfl, _⟩ := h; rfl
 | fsl sz els =>
  refine one _ rfl ?_ h hc
  simp only [rel] at h
  rcases h with ⟨_, rfl⟩ | ⟨a, vs, rfl, _⟩ <;> rfl
 | fn f cap =>
  refine one _ rfl ?_ h hc
  simp only [rel] at h
  obtain ⟨vs, rfl, _⟩ := h; rfl
 | bfn f first =>
  refine one _ rfl ?_ h hc
  simp only [rel] at h
  obtain ⟨vs, rfl, _⟩ := h; rfl
 | osl id n => exact one _ rfl (by simp only [rel] at h; obtain ⟨_, h2, _⟩ := h; first | (obtain ⟨_, rfl⟩ := h2; rfl) | (obtain ⟨_, _, rfl⟩ := h2; rfl)) h hc
 | ptr id n => exact one _ rfl (by simp only [rel] at h; obtain ⟨_, h2, _⟩ := h; first | (obtain ⟨_, rfl⟩ := h2; rfl) | (obtain ⟨_, _, rfl⟩ := h2; rfl)) h hc
 | eptr id n off => exact one _ rfl (by simp only [rel] at h; obtain ⟨_, h2, _⟩ := h; first | (obtain ⟨_, rfl⟩ := h2; rfl) | (obtain ⟨_, _, rfl⟩ := h2; rfl)) h hc
 | mp id => exact one _ rfl (by simp only [rel] at h; obtain ⟨_, h2, _⟩ := h; first | (obtain ⟨_, rfl⟩ := h2; rfl) | (obtain ⟨_, _, rfl⟩ := h2; rfl)) h hc
 | it id => exact one _ rfl (by simp only [rel] at h; obtain ⟨_, h2, _⟩ := h; first | (obtain ⟨_, rfl⟩ := h2; rfl) | (obtain ⟨_, _, rfl⟩ := h2; rfl)) h hc

theorem zc7 (s : RS) (v : Value) : rel s (zcq v) v := by
 unfold zcq
 split <;> simp [rel]
theorem zl0 (s : RS) (v : Value) : rel s (zra v) v := by
 unfold zra
 split
 ·rename_i cs
  split
  ·rename_i h
   simp only [rel]
   refine ⟨cs.toList, by simp, ?_, fun u hu => by simpa using List.all_eq_true.1 h u hu⟩
   refine z4j (by simp) fun i d u V hu => ?_
   simp only [List.getElem?_map, hu, Option.map_some, Option.some.injEq] at V
   subst V; exact zc7 s u
  ·simp [rel]
 ·exact zc7 s v
theorem z9s (s : RS) (vs : List Value) : relAll s (vs.map zcq) vs := by
 refine z4j (by simp) fun i d u V hu => ?_
 simp only [List.getElem?_map, hu, Option.map_some, Option.some.injEq] at V
 subst V; exact zc7 s u

theorem z4l {t : TypeId} (h : z04 P t = true) : (∃ fs, P.underlying t = some (.struct fs)) \/ ∃ n e, P.underlying t = some (.array n e) := by
 unfold z04 at h
 split at h
 ·rename_i fs hu; exact .inl ⟨fs, hu⟩
 ·rename_i n e hu; exact .inr ⟨n, e, hu⟩
 ·cases h
theorem z6s {t : TypeId} (h : z04 P t = true) (w : World) : (isAgg t).run P w = .ok true w := by
 rcases z4l h with ⟨fs, hu⟩ | ⟨n, e, hu⟩ <;> simp [isAgg, run_underlying hu]
theorem z64 {t : TypeId} (h : z0n P t = true) (w : World) : (isAgg t).run P w = .ok false w := by
 unfold z0n at h
 cases hu : P.underlying t with
 | none => rw [hu] at h; cases h
 | some d =>
  rw [hu] at h
  cases d <;> first | (cases h; done) | simp [isAgg, run_underlying hu]
theorem zbc {t : TypeId} {d : TypeDesc} (h : P.underlying t = some d) : ∃ i, P.info? t = some i := by
 unfold Program.underlying at h
 cases hi : P.info? t with
 | none => rw [hi] at h; cases h
 | some i => exact ⟨i, rfl⟩
theorem z1x {t : TypeId} {i : TypeInfo} (h : P.info? t = some i) (w : World) : (sizeOf t).run P w = .ok (z02 P t) w := by
 simp [sizeOf, typeInfo, h, z02]
theorem z93 {t : TypeId} {d : TypeDesc} (h : P.underlying t = some d) (w : World) : (sizeOf t).run P w = .ok (z02 P t) w := by
 obtain ⟨i, hi⟩ := zbc h
 exact z1x hi w
theorem z22 {t : TypeId} (h : z02 P t ≠ 0) : ∃ i, P.info? t = some i := by
 unfold z02 at h
 cases hi : P.info? t with
 | none => rw [hi] at h; simp at h
 | some i => exact ⟨i, rfl⟩

theorem zrf {s : RS} {cs : List D} {vs : List Value} (h : relAll s cs vs) (off n : Nat) : relAll s ((cs.drop off).take n) ((vs.drop off).take n) := z62 n (z7v off h)

theorem z4m {s : RS} {t : TypeId} {cs : List D} {vs : List Value} {off : Nat} {d : D} (h : z3x P t cs off = some d) (hr : relAll s cs vs) (h1 : z5t vs) :
  ∃ u, rel s d u /\ (∀ j c, u.cells.toList[j]? = some c -> vs[off + j]? = some c) /\
   (∀ (w : World) (a : Addr), (∀ j c, u.cells.toList[j]? = some c -> w.cell? (a.add j) = some c) -> (loadVar t a).run P w = .ok u w) /\
   (∀ w, (part t vs.toArray off).run P w = .ok u w) := by
 have hlen := z06 hr
 unfold z3x at h
 split at h
 ·rename_i hagg
  split at h
  ·rename_i hle
   simp only [Option.some.injEq] at h
   subst h
   refine ⟨.agg ((vs.drop off).take (z02 P t)).toArray, ?_, ?_, ?_, ?_⟩
   ·simp only [rel]
    exact ⟨_, rfl, zrf hr _ _, zf9 (zfa h1 _) _⟩
   ·intro j c hj
    simp only [Value.cells, List.getElem?_take, List.getElem?_drop] at hj
    split at hj
    ·exact hj
    ·cases hj
   ·intro w a ha
    have hl : ((vs.drop off).take (z02 P t)).length = z02 P t := by simp; omega
    have hload := run_loadCells_list (P := P) w a ((vs.drop off).take (z02 P t)) (by simpa [Value.cells] using ha)
    rw [hl] at hload
    rcases z4l hagg with ⟨fs, hu⟩ | ⟨n, e, hu⟩ <;>
     simp [loadVar, z6s hagg, z93 hu, hload]
   ·intro w
    rcases z4l hagg with ⟨fs, hu⟩ | ⟨n, e, hu⟩ <;>
    ·simp only [part, Sem.run_bind, z6s hagg, Result.andThen_ok, if_true, z93 hu, Sem.run_pure]
     congr 2
     apply Array.ext'
     simp
  ·cases h
 ·split at h
  ·rename_i hone
   obtain ⟨u, hu, hru⟩ := z29 hr off d h
   have hu1 : u.oneCell' = true := h1 u (List.mem_of_getElem? hu)
   refine ⟨u, hru, ?_, ?_, ?_⟩
   ·intro j c hj
    rw [z21 hu1] at hj
    cases j with
    | zero => simp at hj; subst hj; simpa using hu
    | succ j => simp at hj
   ·intro w a ha
    have := ha 0 u (by rw [z21 hu1]; simp)
    simp only [Addr.add, if_true] at this
    simp [loadVar, z64 hone, this]
   ·intro w
    simp [part, z64 hone, hu]
  ·cases h

def Ran (P : Program) (s : RS) (w : World) (e : Sem Next) (d : D) (H : HM) (nx : Nat) : Prop :=
 ∃ v s' w', (e.run P w = .ok (.value v) w' \/ (e.run P w = .ok .skip w' /\ v = undef)) /\ Step s w s' w' /\ RH P s' w' /\ s'.H = H /\ s'.nx = nx /\ rel s' d v

theorem z7x {s : RS} {w : World} {e : Sem Next} {d : D} {v : Value} (h : RH P s w) (hr : e.run P w = .ok (.value v) w) (V : rel s d v) : Ran P s w e d s.H s.nx :=
 ⟨v, s, w, .inl hr, Step.refl s w, h, rfl, rfl, V⟩
theorem zw3 {s : RS} {w : World} {x : Sem Value} {d : D} {v : Value} (h : RH P s w) (hr : x.run P w = .ok v w) (V : rel s d v) :
  Ran P s w (do pure (.value (<- x))) d s.H s.nx :=
 z7x h (by simp [hr]) V

theorem zbd {s : RS} {w : World} (h : RH P s w) {id : Nat} {e : TypeId} {cs : List D} (hid : s.H id = some (.box e cs)) :
  ∃ b vs, s.κ id = .pointer (some ⟨b, 0, none⟩) /\ w.heap[b]? = some (.cells (List.toArray vs) e (0, 0)) /\ relAll s cs vs /\ z5t vs /\
   ∀ j c, vs[j]? = some c -> w.cell? ⟨b, j, none⟩ = some c := by
 obtain ⟨b, vs, hv, hh, hr, h1⟩ := (h.obj id _ hid).2
 refine ⟨b, vs, hv, hh, hr, h1, fun j c hj => ?_⟩
 rw [cell_of_row w b j _ e (0, 0) hh]; simpa using hj
theorem z53 {s : RS} {w : World} (h : RH P s w) {id : Nat} {e : TypeId} {n : Nat} {cs : List D} (hid : s.H id = some (.row e n cs)) :
  ∃ vs, w.ownsRow 0 e (z02 P e) (s.κ id) n vs /\ relAll s cs vs /\ z5t vs /\ cs.length = n * z02 P e /\
   ∀ b, blockOf (s.κ id) = some b -> ∀ j c, vs[j]? = some c -> w.cell? ⟨b, j, none⟩ = some c := by
 obtain ⟨vs, ho, hr, h1⟩ := (h.obj id _ hid).2
 refine ⟨vs, ho, hr, h1, by rw [<- z06 hr]; exact ho.1, fun b hb j c hj => ?_⟩
 rcases ho.2 with ⟨hv, _⟩ | ⟨g, cap, cur, hv, _, hh, _, _, _, ht⟩
 ·rw [hv] at hb; cases hb
 ·rw [hv] at hb; cases hb
  rw [cell_of_row w g j _ e (0, 0) hh]
  rw [<- ht, List.getElem?_take] at hj
  split at hj
  ·simpa using hj
  ·cases hj
theorem z0z (b off j : Nat) : (⟨b, off, none⟩ : Addr).add j = ⟨b, off + j, none⟩ := by
 unfold Addr.add; split
 ·rename_i h; subst h; rfl
 ·rfl
theorem z54 (a : Addr) (n m : Nat) : (a.add n).add m = a.add (n + m) := by
 unfold Addr.add
 by_cases hn : n = 0
 ·subst hn; simp
 ·by_cases hm : m = 0
  ·subst hm; simp [hn]
  ·simp [hn, hm, Nat.add_assoc]

theorem zw4 {s : RS} {t : TypeId} {d : D} {u : Value} (hf : z8w P t d = true) (hr : rel s d u) (w : World) (a : Addr)
  (hc : ∀ j c, u.cells.toList[j]? = some c -> w.cell? (a.add j) = some c) : (loadVar t a).run P w = .ok u w := by
 have one : z0n P t = true -> u.oneCell' = true -> (loadVar t a).run P w = .ok u w := by
  intro h1 h2
  have := hc 0 u (by rw [z21 h2]; simp)
  simp only [Addr.add, if_true] at this
  simp [loadVar, z64 h1, this]
 have cell : (∀ ds, d ≠ .agg ds) -> (∀ ds, d ≠ .tup ds) -> d ≠ .any -> z0n P t = true -> (loadVar t a).run P w = .ok u w := by
  intro g1 g2 g3 h2
  refine one h2 ?_
  cases d <;> first | exact (g1 _ rfl).elim | exact (g2 _ rfl).elim | exact (g3 rfl).elim | skip
  all_goals simp only [rel] at hr
  all_goals first
   | (subst hr; rfl)
   | (rcases hr with ⟨_, _, rfl⟩ | ⟨_, _, _, rfl, _⟩ <;> rfl)
   | (rcases hr with ⟨_, rfl⟩ | ⟨_, _, rfl, _⟩ <;> rfl)
   | (obtain ⟨_, ⟨_, rfl⟩, _⟩ := hr; rfl)
   | (obtain ⟨_, ⟨_, _, rfl⟩, _⟩ := hr; rfl)
   | (obtain ⟨_, _, rfl, _⟩ := hr; rfl)
   | (obtain ⟨_, rfl, _⟩ := hr; rfl)
 cases d with
 | agg ds =>
  simp only [z8w, Bool.and_eq_true, beq_iff_eq] at hf
  obtain ⟨hagg, hl⟩ := hf
  simp only [rel] at hr
  obtain ⟨vs, rfl, h2, h3⟩ := hr
  have hload := run_loadCells_list (P := P) w a vs (by simpa [Value.cells] using hc)
  rw [z06 h2, hl] at hload
  rcases z4l hagg with ⟨fs, hu⟩ | ⟨n, e, hu⟩ <;>
   simp [loadVar, z6s hagg, z93 hu, hload]
 | any => simp [z8w] at hf
 | tup ds => simp [z8w] at hf
 | _ => exact cell (by simp) (by simp) (by simp) (by simpa [z8w] using hf)

theorem zgu {s : RS} {w : World} (h : RH P s w) {t : TypeId} {p d : D} {v : Value} (V : z3p P s.H t p = some d) (hp : rel s p v) :
  ∃ u, (Instr.loadAt t v).run P w = .ok u w /\ rel s d u := by
 unfold z3p at V
 split at V
 ·rename_i id off
  cases hid : s.H id with
  | none => rw [hid] at V; cases V
  | some o =>
   rw [hid] at V
   cases o with
   | box e cs =>
    simp only at V
    obtain ⟨b, vs, O, hh, hr, h1, hcell⟩ := zbd h hid
    simp only [rel] at hp
    obtain ⟨_, _, hp⟩ := hp
    obtain ⟨b', hk', rfl⟩ := hp _ _ hid
    rw [O] at hk'; cases hk'
    obtain ⟨u, hu, hsub, hload, _⟩ := z4m V hr h1
    refine ⟨u, ?_, hu⟩
    simp only [Instr.loadAt, Instr.sureAddr, Sem.run_bind, Sem.run_pure, Result.andThen_ok]
    exact hload w _ fun j c hj => by rw [z0z]; exact hcell _ _ (hsub j c hj)
   | row e n cs => cases V
   | map es => cases V
   | raw q => cases V
 ·rename_i id n off
  cases hid : s.H id with
  | none => rw [hid] at V; cases V
  | some o =>
   rw [hid] at V
   cases o with
   | row e k cs =>
    simp only at V
    split at V
    ·rename_i hnk
     subst hnk
     obtain ⟨vs, ho, hr, h1, _, hcell⟩ := z53 h hid
     simp only [rel] at hp
     obtain ⟨_, _, hp⟩ := hp
     obtain ⟨b, hk', rfl⟩ := (hp _ _ _ hid).2 rfl
     obtain ⟨u, hu, hsub, hload, _⟩ := z4m V hr h1
     refine ⟨u, ?_, hu⟩
     simp only [Instr.loadAt, Instr.sureAddr, Sem.run_bind, Sem.run_pure, Result.andThen_ok]
     exact hload w _ fun j c hj => by rw [z0z]; exact hcell _ hk' _ _ (hsub j c hj)
    ·cases V
   | box e cs => cases V
   | map es => cases V
   | raw q => cases V
 ·rename_i d'
  split at V
  ·rename_i hf
   cases V
   simp only [rel] at hp
   obtain ⟨a, u, rfl, hr, hc⟩ := hp
   refine ⟨u, ?_, hr⟩
   simp only [Instr.loadAt, Instr.sureAddr, Sem.run_bind, Sem.run_pure, Result.andThen_ok]
   exact zw4 hf hr w a fun j c hj => (h.mem _ _ (hc j c hj)).1
  ·cases V
 ·cases V

theorem zfb {s : RS} {w : World} (_h : RH P s w) {st : TypeId} {p d : D} {v : Value} {f : Nat} (V : z37 P st p f = some d) (hp : rel s p v) :
  ∃ u, (Instr.fieldAt st v f).run P w = .ok u w /\ rel s d u := by
 unfold z37 at V
 cases hf : z0y P st f with
 | none => rw [hf] at V; cases V
 | some ot =>
  obtain ⟨o, t⟩ := ot
  rw [hf] at V
  simp only at V
  unfold z0y at hf
  cases hu : P.underlying st with
  | none => rw [hu] at hf; cases hf
  | some desc =>
   rw [hu] at hf
   cases desc <;> first | (cases hf; done) | skip
   rename_i fs
   simp only [Option.map_eq_some_iff] at hf
   obtain ⟨fld, hfld, heq⟩ := hf
   simp only [Prod.mk.injEq] at heq
   obtain ⟨rfl, rfl⟩ := heq
   split at V
   ·cases V
   ·rename_i hsz
    obtain ⟨i, hi⟩ := z22 hsz
    have run : ∀ a : Addr, (Instr.fieldAt st (.pointer (some a)) f).run P w = .ok (.pointer (some (a.add fld.offset))) w := by
     intro a
     simp [Instr.fieldAt, run_underlying hu, hfld, Instr.sureAddr, fieldPlace, z1x hi, hsz]
    cases p <;> first | (cases V; done) | skip
    case ptr id off =>
     simp only [Option.some.injEq] at V; subst V
     simp only [rel] at hp
     obtain ⟨h1, ⟨a, rfl⟩, h3⟩ := hp
     refine ⟨_, run _, ?_⟩
     simp only [rel]
     refine ⟨h1, ⟨_, rfl⟩, fun e cs hH => ?_⟩
     obtain ⟨b, O, ha⟩ := h3 _ _ hH
     cases ha
     exact ⟨b, O, by rw [z0z]⟩
    case eptr id n off =>
     simp only [Option.some.injEq] at V; subst V
     simp only [rel] at hp
     obtain ⟨h1, ⟨a, rfl⟩, h3⟩ := hp
     refine ⟨_, run _, ?_⟩
     simp only [rel]
     refine ⟨h1, ⟨_, rfl⟩, fun e k cs hH => ⟨(h3 _ _ _ hH).1, fun hnk => ?_⟩⟩
     obtain ⟨b, O, ha⟩ := (h3 _ _ _ hH).2 hnk
     cases ha
     exact ⟨b, O, by rw [z0z]⟩
    case rptr d' =>
     cases d' <;> first | (cases V; done) | skip
     rename_i ds
     simp only [Option.map_eq_some_iff] at V
     obtain ⟨d', hd', rfl⟩ := V
     simp only [rel] at hp
     obtain ⟨a, u, rfl, ⟨vs, rfl, hr, h1⟩, hc⟩ := hp
     obtain ⟨u', hu', hsub, _, _⟩ := z4m hd' hr h1
     refine ⟨_, run _, ?_⟩
     simp only [rel]
     refine ⟨_, u', rfl, hu', fun j c hj => ?_⟩
     rw [z54]
     exact hc _ _ (by simpa [Value.cells] using hsub j c hj)

end Go.Proofs.YtppebcifiejplaaGreatDoor.Abs
namespace Go.Proofs.YtppebcifiejplaaGreatDoor.Abs
open Go.RowKit
variable {P : Program}

theorem z7y {α : Type} : ∀ (vs cs : List α) (off : Nat), (z11 cs off vs).length = cs.length
 | [], cs, off => rfl
 | v :: vs, cs, off => by rw [z11, z7y vs]; simp
theorem z94 {α : Type} : ∀ (vs cs : List α) (off : Nat), off + vs.length <= cs.length -> z11 cs off vs = cs.take off ++ vs ++ cs.drop (off + vs.length)
 | [], cs, off, _ => by simp [z11]
 | v :: vs, cs, off, h => by
  simp only [List.length_cons] at h
  rw [z11, z94 vs _ _ (by simp; omega)]
  apply List.ext_getElem?
  intro j
  simp only [List.getElem?_append, List.getElem?_take, List.getElem?_set, List.getElem?_drop, List.length_append, List.length_take, List.length_set, List.length_cons, List.getElem?_cons]
  by_cases h1 : j < off
  ·rw [if_pos (by omega), if_pos (by omega), if_pos (by omega), if_neg (by omega), if_pos (by omega), if_pos (by omega), if_pos (by omega)]
  ·by_cases h2 : j = off
   ·subst h2
    rw [if_pos (by omega), if_pos (by omega), if_pos (by omega), if_pos rfl, if_pos (by omega), if_pos (by omega), if_neg (by omega), if_pos (by omega)]
   ·by_cases h3 : j < off + 1 + vs.length
    ·rw [if_pos (by omega), if_neg (by omega), if_pos (by omega), if_neg (by omega), if_neg (by omega)]
     congr 1; omega
    ·rw [if_neg (by omega), if_neg (by omega), if_neg (by omega)]
     congr 1; omega
theorem z5p {s : RS} : ∀ {ds : List D} {us : List Value} {cs : List D} {vs : List Value} (off : Nat), relAll s ds us -> relAll s cs vs -> relAll s (z11 cs off ds) (z11 vs off us)
 | [], us, cs, vs, off, h, h' => by
  simp only [relAll] at h; subst h; exact h'
 | d :: ds, us, cs, vs, off, h, h' => by
  simp only [relAll] at h
  obtain ⟨v, r, rfl, h1, h2⟩ := h
  simp only [z11]
  exact z5p (off + 1) h2 (zgt h' off h1)
theorem zz1 {vs : List Value} (h : z5t vs) (n : Nat) {v : Value} (hv : v.oneCell' = true) : z5t (vs.set n v) := by
 intro u hu
 rcases List.mem_or_eq_of_mem_set hu with h1 | h1
 ·exact h u h1
 ·subst h1; exact hv
theorem z7z : ∀ {us vs : List Value} (off : Nat), z5t us -> z5t vs -> z5t (z11 vs off us)
 | [], vs, off, _, h => h
 | u :: us, vs, off, h, h' => by
  simp only [z11]
  exact z7z (off + 1) (fun x hx => h x (List.mem_cons_of_mem _ hx)) (zz1 h' off (h u (by simp)))

theorem zhy {A : List Value} {N off : Nat} {us : List Value} (h : off + us.length <= N) (hN : N <= A.length) :
  (A.take off ++ us ++ A.drop (off + us.length)).take N = z11 (A.take N) off us := by
 rw [z94 _ _ _ (by simp; omega)]
 apply List.ext_getElem?
 intro j
 simp only [List.getElem?_append, List.getElem?_take, List.getElem?_drop, List.length_append, List.length_take]
 by_cases h0 : j < N
 ·by_cases h1 : j < off
  ·rw [if_pos h0, if_pos (by omega), if_pos (by omega), if_pos (by omega), if_pos (by omega), if_pos (by omega), if_pos (by omega), if_pos (by omega)]
  ·by_cases h2 : j < off + us.length
   ·rw [if_pos h0, if_pos (by omega), if_neg (by omega), if_pos (by omega), if_neg (by omega)]
    congr 1; omega
   ·rw [if_pos h0, if_neg (by omega), if_neg (by omega), if_pos (by omega)]
    congr 1; omega
 ·rw [if_neg h0, if_neg (by omega), if_neg (by omega)]

theorem zfc {t : TypeId} {a : Addr} {u : Value} {w w' : World} (hi : ∃ i, P.info? t = some i) (hs : u.cells.size = z02 P t) (hst : (storeCells a u.cells.toList 0).run P w = .ok () w') :
  (Instr.storeAt t (.pointer (some a)) u).run P w = .ok () w' := by
 obtain ⟨i, hi⟩ := hi
 simp [Instr.storeAt, Instr.sureAddr, storeVar, z1x hi, hs, hst]

theorem zmj {s : RS} {w : World} (h : RH P s w) {t : TypeId} {p d : D} {v u : Value} {H : HM} (V : z5f P s.H t p d = some H) (hp : rel s p v) (hv : rel s d u) :
  ∃ s' w', (Instr.storeAt t v u).run P w = .ok () w' /\ Step s w s' w' /\ RH P s' w' /\ s'.H = H /\ s'.nx = s.nx := by
 unfold z5f at V
 cases hc : z4k d with
 | none => rw [hc] at V; cases V
 | some ds =>
  rw [hc] at V
  simp only at V
  obtain ⟨hr, h1⟩ := z92 hv hc
  have hlen := z06 hr
  split at V
  ·rename_i hsz
   obtain ⟨hsz, hpos⟩ := hsz
   have hi : ∃ i, P.info? t = some i := z22 (by omega)
   have hus : u.cells.size = z02 P t := by rw [<- hsz, <- hlen]; simp
   split at V
   ·rename_i id off
    cases hid : s.H id with
    | none => rw [hid] at V; cases V
    | some o =>
     rw [hid] at V
     cases o <;> first | (cases V; done) | skip
     rename_i e cs
     simp only at V
     split at V
     ·rename_i hle
      simp only [Option.some.injEq] at V
      subst V
      obtain ⟨b, vs, O, hh, hrv, hov, _⟩ := zbd h hid
      simp only [rel] at hp
      obtain ⟨hidn, _, hp⟩ := hp
      obtain ⟨b', hk', rfl⟩ := hp _ _ hid
      rw [O] at hk'; cases hk'
      have hlv := z06 hrv
      have hst := run_storeCells_at P b off e u.cells.toList 0 vs.toArray w hh (by simp at hlen ⊢; omega) h1
      have hsp : vs.take (off + 0) ++ u.cells.toList ++ vs.drop (off + 0 + u.cells.toList.length) = z11 vs off u.cells.toList := by
       rw [z94 _ _ _ (by omega)]; simp
      simp only at hst
      rw [hsp] at hst
      obtain ⟨hstep, hRH⟩ := zab (w' := w.setRow b (z11 vs off u.cells.toList).toArray) h id (.box e cs) (.box e (z11 cs off ds)) (s.κ id) hid rfl rfl rfl (by simp)
       (fun k _ hkb => setRow_other w b k _ (by intro e; subst e; rw [O] at hkb; exact hkb rfl))
       (by simp [objLe]) (fun b' hb' => .inl hb')
       (fun hl => ⟨b, z11 vs off u.cells.toList, O, setRow_heap w b _ _ e _ hh, relAll.later hl _ _ (z5p off hr hrv), z7z off h1 hov⟩)
      exact ⟨_, _, zfc hi hus hst, hstep, hRH, rfl, rfl⟩
     ·cases V
   ·rename_i id n off
    cases hid : s.H id with
    | none => rw [hid] at V; cases V
    | some o =>
     rw [hid] at V
     cases o <;> first | (cases V; done) | skip
     rename_i e k cs
     simp only at V
     split at V
     ·rename_i hle
      obtain ⟨hnk, hle⟩ := hle
      subst hnk
      simp only [Option.some.injEq] at V
      subst V
      obtain ⟨vs, ho, hrv, hov, hcl, _⟩ := z53 h hid
      simp only [rel] at hp
      obtain ⟨hidn, _, hp⟩ := hp
      obtain ⟨b, O, rfl⟩ := (hp _ _ _ hid).2 rfl
      have hlv := z06 hrv
      rcases ho.2 with ⟨hv0, _⟩ | ⟨g, cap, cur, hv0, _, hh, hnc, hcm, hcs, ht⟩
      ·rw [hv0] at O; cases O
      ·rw [hv0] at O; cases O
       have hNle : n * z02 P e <= cap * z02 P e := Nat.mul_le_mul_right _ hnc
       have hst := run_storeCells_at P g off e u.cells.toList 0 cur w hh (by omega) h1
       obtain ⟨hstep, hRH⟩ := zab (w' := w.setRow g (cur.toList.take (off + 0) ++ u.cells.toList ++ cur.toList.drop (off + 0 + u.cells.toList.length)).toArray) h id (.row e n cs) (.row e n (z11 cs off ds)) (s.κ id) hid rfl rfl rfl (by simp)
        (fun k _ hkb => setRow_other w g k _ (by intro e; subst e; rw [hv0] at hkb; exact hkb rfl))
        (by simp [objLe]) (fun b' hb' => .inl hb')
        (fun hl => ⟨z11 vs off u.cells.toList, ⟨by rw [z7y]; exact ho.1, .inr ⟨g, cap, _, hv0, Nat.zero_le _, setRow_heap w g _ _ e _ hh, hnc, hcm, by
          simp only [List.size_toArray, List.length_append, List.length_take, List.length_drop, Array.length_toList]; omega, by
          simp only [Nat.add_zero]
          rw [zhy (by omega) (by simp; omega), ht]⟩⟩,
         relAll.later hl _ _ (z5p off hr hrv), z7z off h1 hov⟩)
       exact ⟨_, _, zfc hi hus hst, hstep, hRH, rfl, rfl⟩
     ·cases V
   ·cases V
  ·cases V

theorem zw5 {els : List D} {i : Int} {d : D} (h : zvz els i = some d) : 0 <= i /\ i < els.length /\ els[i.toNat]? = some d := by
 unfold zvz at h
 split at h
 ·rename_i hc; exact ⟨hc.1, hc.2, h⟩
 ·cases h

theorem z2d {t e : TypeId} (h : z0x P t = some e) : P.underlying t = some (.slice e) := by
 unfold z0x at h
 split at h
 ·cases h; assumption
 ·cases h
theorem zl1 {t e : TypeId} {n : Nat} (h : z3n P t = some (n, e)) : P.underlying t = some (.array n e) := by
 unfold z3n at h
 split at h
 ·cases h; assumption
 ·cases h

theorem z65 {t : TypeId} (h : z3m P t = true) : P.underlying t = some .string := by
 unfold z3m at h
 split at h
 ·assumption
 ·cases h
theorem zgv {t : TypeId} (h : z1k P t = true) : P.underlying t = some .bool := by
 unfold z1k at h
 split at h
 ·assumption
 ·cases h
theorem zfd {t k e : TypeId} (h : z3i P t = some (k, e)) : P.underlying t = some (.map k e) := by
 unfold z3i at h
 split at h
 ·cases h; assumption
 ·cases h

theorem zl2 {t e : TypeId} (_h : P.underlying t = some (.slice e)) (h0 : z02 P e ≠ 0) (w : World) : (sizeOf e).run P w = .ok (z02 P e) w := by
 obtain ⟨i, hi⟩ := z22 h0
 exact z1x hi w

theorem zcs {s : RS} {d : D} {v : Value} {ds : List D} (h : rel s d v) (hc : z4k d = some ds) : v.cells.size = ds.length := by
 have := z06 (z92 h hc).1
 simpa using this

theorem zfe {s : RS} {w : World} (h : RH P s w) {t : TypeId} {x i d : D} {vx vi : Value} (V : z0p P s.H t x i = some d) (hx : rel s x vx) (hi : rel s i vi) :
  ∃ u, (Instr.indexAt t vx vi).run P w = .ok u w /\ rel s d u := by
 unfold z0p at V
 cases he : z0x P t with
 | some e =>
  rw [he] at V
  simp only at V
  have hu := z2d he
  split at V
  ·rename_i nn sz els k i
   split at V
   ·rename_i hsz
    obtain ⟨rfl, h0⟩ := hsz
    simp only [Option.map_eq_some_iff] at V
    obtain ⟨el, hel, rfl⟩ := V
    obtain ⟨hi0, hil, hget⟩ := zw5 hel
    simp only [rel] at hx hi
    subst hi
    rcases hx with ⟨_, he0, _⟩ | ⟨a, cap, vs, rfl, _, _, hr, hlies⟩
    ·subst he0; simp at hget
    ·obtain ⟨u, hu', hru⟩ := z29 hr _ _ hget
     obtain ⟨hsz', hc⟩ := hlies _ _ hu'
     refine ⟨.pointer (some (a.add (i.toNat * z02 P e))), ?_, ?_⟩
     ·simp [Instr.indexAt, asIntOf, run_underlying hu, hi0, hil, zl2 hu h0]
     ·simp only [rel]
      exact ⟨_, u, rfl, hru, hc⟩
   ·cases V
  ·rename_i id n k i
   cases hid : s.H id with
   | none => rw [hid] at V; cases V
   | some o =>
    rw [hid] at V
    cases o <;> first | (cases V; done) | skip
    rename_i e' k' cs
    simp only at V
    split at V
    ·rename_i hc
     obtain ⟨rfl, rfl, h0, hi0, hil⟩ := hc
     simp only [Option.some.injEq] at V; subst V
     simp only [rel] at hx hi
     subst hi
     obtain ⟨hidn, _, hlive⟩ := hx
     have hv := (hlive _ _ _ hid).2 rfl
     obtain ⟨vs, ho, hr, h1, _, _⟩ := z53 h hid
     rcases ho.2 with ⟨hv0, hn0⟩ | ⟨g, cap, cur, hv0, _, _⟩
     ·omega
     ·rw [hv0] at hv; subst hv
      refine ⟨.pointer (some ((⟨g, 0, none⟩ : Addr).add (i.toNat * z02 P e'))), ?_, ?_⟩
      ·simp [Instr.indexAt, asIntOf, run_underlying hu, hi0, hil, zl2 hu h0]
      ·simp only [rel]
       exact ⟨hidn, ⟨_, rfl⟩, fun e2 k2 cs2 hH => by
        rw [hid] at hH; cases hH
        exact ⟨Nat.le_refl _, fun _ => ⟨g, by rw [hv0]; rfl, by rw [z0z, Nat.zero_add]⟩⟩⟩
    ·cases V
  ·cases V
 | none =>
  rw [he] at V
  simp only at V
  cases ha : z3n P t with
  | none => rw [ha] at V; cases V
  | some le =>
   obtain ⟨len, e⟩ := le
   rw [ha] at V
   simp only at V
   have hu := zl1 ha
   have run : ∀ (a : Addr) (k : IntKind) (i : Int), z02 P e ≠ 0 -> 0 <= i -> i < len -> (Instr.indexAt t (.pointer (some a)) (.int k i)).run P w = .ok (.pointer (some (a.add (i.toNat * z02 P e)))) w := by
    intro a k i h0 h1 h2
    obtain ⟨inf, hinf⟩ := z22 h0
    simp [Instr.indexAt, asIntOf, run_underlying hu, Instr.sureAddr, h1, h2, z1x hinf]
   split at V
   ·rename_i id off k i
    split at V
    ·rename_i hc
     simp only [Option.some.injEq] at V; subst V
     simp only [rel] at hx hi
     subst hi
     obtain ⟨h1, ⟨a, rfl⟩, h3⟩ := hx
     refine ⟨_, run a k i hc.1 hc.2.1 hc.2.2, ?_⟩
     simp only [rel]
     refine ⟨h1, ⟨_, rfl⟩, fun e' cs hH => ?_⟩
     obtain ⟨b, O, ha'⟩ := h3 _ _ hH
     cases ha'
     exact ⟨b, O, by rw [z0z]⟩
    ·cases V
   ·rename_i id n off k i
    split at V
    ·rename_i hc
     simp only [Option.some.injEq] at V; subst V
     simp only [rel] at hx hi
     subst hi
     obtain ⟨h1, ⟨a, rfl⟩, h3⟩ := hx
     refine ⟨_, run a k i hc.1 hc.2.1 hc.2.2, ?_⟩
     simp only [rel]
     refine ⟨h1, ⟨_, rfl⟩, fun e' k' cs hH => ⟨(h3 _ _ _ hH).1, fun hnk => ?_⟩⟩
     obtain ⟨b, O, ha'⟩ := (h3 _ _ _ hH).2 hnk
     cases ha'
     exact ⟨b, O, by rw [z0z]⟩
    ·cases V
   ·rename_i ds k i
    split at V
    ·rename_i hc
     simp only [Option.map_eq_some_iff] at V
     obtain ⟨d', hd', rfl⟩ := V
     simp only [rel] at hx hi
     subst hi
     obtain ⟨a, u, rfl, ⟨vs, rfl, hr, h1⟩, hcl⟩ := hx
     obtain ⟨u', hu', hsub, _, _⟩ := z4m hd' hr h1
     refine ⟨_, run a k i hc.1 hc.2.1 hc.2.2, ?_⟩
     simp only [rel]
     refine ⟨_, u', rfl, hu', fun j c hj => ?_⟩
     rw [z54]
     exact hcl _ _ (by simpa [Value.cells] using hsub j c hj)
    ·cases V
   ·cases V

theorem zmk {s : RS} {w : World} {t : TypeId} {x i d : D} {vx vi : Value} (V : z9q P t x i = some d) (hx : rel s x vx) (hi : rel s i vi) :
  ∃ u, (Instr.index t vx vi).run P w = .ok u w /\ rel s d u := by
 unfold z9q at V
 split at V
 ·rename_i len e ds k i ha
  have hu := zl1 ha
  split at V
  ·rename_i hc
   obtain ⟨h0, h1, h2⟩ := hc
   simp only [rel] at hx hi
   subst hi
   obtain ⟨vs, rfl, hr, ho⟩ := hx
   obtain ⟨u, hu', _, _, hpart⟩ := z4m V hr ho
   obtain ⟨inf, hinf⟩ := z22 h0
   exact ⟨u, by simp [Instr.index, asIntOf, run_underlying hu, h1, h2, z1x hinf, hpart], hu'⟩
  ·cases V
 ·rename_i b k i ha
  split at V
  ·rename_i hs
   obtain ⟨hs, h0⟩ := hs
   simp only [Option.map_eq_some_iff] at V
   obtain ⟨c, hc, rfl⟩ := V
   simp only [rel] at hx hi
   subst hx; subst hi
   exact ⟨.int .u8 c.toNat, by simp [Instr.index, asIntOf, run_underlying (z65 hs), h0, hc], by simp [rel]⟩
  ·cases V
 ·cases V

theorem zml {s : RS} {w : World} {t ft : TypeId} {f o : Nat} {ds : List D} {d : D} {v : Value} (hf : z0y P t f = some (o, ft)) (V : z3x P ft ds o = some d) (hx : rel s (.agg ds) v) :
  ∃ u, (Instr.field t v f).run P w = .ok u w /\ rel s d u := by
 simp only [rel] at hx
 obtain ⟨vs, rfl, hr, ho⟩ := hx
 obtain ⟨u, hu', _, _, hpart⟩ := z4m V hr ho
 unfold z0y at hf
 cases hu : P.underlying t with
 | none => rw [hu] at hf; cases hf
 | some desc =>
  rw [hu] at hf
  cases desc <;> first | (cases hf; done) | skip
  rename_i fs
  simp only [Option.map_eq_some_iff] at hf
  obtain ⟨fld, hfld, heq⟩ := hf
  simp only [Prod.mk.injEq] at heq
  obtain ⟨rfl, rfl⟩ := heq
  exact ⟨u, by simp [Instr.field, run_underlying hu, hfld, asAgg, hpart], hu'⟩

theorem z5u {s : RS} {dflt : Nat} {o : Option D} {ov : Option Value} {i : Int} (h : zbb dflt o = some i) (hr : ∀ d, o = some d -> ∃ v, ov = some v /\ rel s d v) (hn : o = none -> ov = none) :
  (ov = none /\ i = dflt) \/ ∃ k, ov = some (.int k i) := by
 unfold zbb at h
 split at h
 ·cases h; exact .inl ⟨hn rfl, rfl⟩
 ·rename_i k j
  cases h
  obtain ⟨v, hv, hrv⟩ := hr _ rfl
  simp only [rel] at hrv; subst hrv
  exact .inr ⟨k, hv⟩
 ·cases h

theorem z1q {k : IntKind} {i : Int} {y : Nat} {code : BoundsCode} {w : World} (h0 : 0 <= i) (h1 : i <= y) : (Instr.sliceBound (.int k i) y code).run P w = .ok i.toNat w := by
 simp [Instr.sliceBound, asIntOf, h0, h1]
theorem z66 {len cap : Nat} {lo hi : Option Value} {l h : Int} {w : World} (hc : len <= cap)
  (hl : (lo = none /\ l = (0 : Nat)) \/ ∃ k, lo = some (.int k l)) (hh : (hi = none /\ h = (len : Nat)) \/ ∃ k, hi = some (.int k h)) (h0 : 0 <= l) (h1 : l <= h) (h2 : h <= len) :
  (Instr.sliceBounds true len cap lo hi none).run P w = .ok (l.toNat, h.toNat, cap) w := by
 rcases hl with ⟨rfl, rfl⟩ | ⟨kl, rfl⟩ <;> rcases hh with ⟨rfl, rfl⟩ | ⟨kh, rfl⟩
 ·simp [Instr.sliceBounds]
 ·have := z1q (P := P) (k := kh) (i := h) (y := cap) (code := .sliceAcap) (w := w) (by omega) (by omega)
  simp [Instr.sliceBounds, this]
 ·have := z1q (P := P) (k := kl) (i := l) (y := len) (code := .sliceB) (w := w) (by omega) (by omega)
  simp [Instr.sliceBounds, this]
 ·have h3 := z1q (P := P) (k := kh) (i := h) (y := cap) (code := .sliceAcap) (w := w) (by omega) (by omega)
  have h4 := z1q (P := P) (k := kl) (i := l) (y := h.toNat) (code := .sliceB) (w := w) (by omega) (by omega)
  simp [Instr.sliceBounds, h3, h4]

theorem zd4 {len cap : Nat} {lo hi : Option Value} {l h : Int} {w : World} (hc : len <= cap)
  (hl : (lo = none /\ l = (0 : Nat)) \/ ∃ k, lo = some (.int k l)) (hh : (hi = none /\ h = (len : Nat)) \/ ∃ k, hi = some (.int k h)) (h0 : 0 <= l) (h1 : l <= h) (h2 : h <= len) :
  (Instr.sliceBounds false len cap lo hi none).run P w = .ok (l.toNat, h.toNat, cap) w := by
 rcases hl with ⟨rfl, rfl⟩ | ⟨kl, rfl⟩ <;> rcases hh with ⟨rfl, rfl⟩ | ⟨kh, rfl⟩
 ·simp [Instr.sliceBounds]
 ·have := z1q (P := P) (k := kh) (i := h) (y := cap) (code := .sliceAlen) (w := w) (by omega) (by omega)
  simp [Instr.sliceBounds, this]
 ·have := z1q (P := P) (k := kl) (i := l) (y := len) (code := .sliceB) (w := w) (by omega) (by omega)
  simp [Instr.sliceBounds, this]
 ·have h3 := z1q (P := P) (k := kh) (i := h) (y := cap) (code := .sliceAlen) (w := w) (by omega) (by omega)
  have h4 := z1q (P := P) (k := kl) (i := l) (y := h.toNat) (code := .sliceB) (w := w) (by omega) (by omega)
  simp [Instr.sliceBounds, h3, h4]

theorem zmm {s : RS} {w : World} {t : TypeId} {x d : D} {lo hi : Option D} {vx : Value} {vlo vhi : Option Value} (V : z9r P t x lo hi = some d) (hx : rel s x vx)
  (hlo : ∀ d, lo = some d -> ∃ v, vlo = some v /\ rel s d v) (hlo' : lo = none -> vlo = none) (hhi : ∀ d, hi = some d -> ∃ v, vhi = some v /\ rel s d v) (hhi' : hi = none -> vhi = none) :
  ∃ u, (Instr.sliceAt t vx vlo vhi none).run P w = .ok u w /\ rel s d u := by
 unfold z9r at V
 cases he : z0x P t with
 | none =>
  rw [he] at V
  simp only at V
  split at V
  ·rename_i x
   simp only [Option.bind_eq_some_iff] at V
   obtain ⟨l, hl, h, hh, V⟩ := V
   split at V
   ·rename_i hc
    obtain ⟨hst, h0, h1, h2⟩ := hc
    simp only [Option.some.injEq] at V; subst V
    have hl' := z5u hl hlo hlo'
    have hh' := z5u hh hhi hhi'
    simp only [rel] at hx; subst hx
    have hb := zd4 (P := P) (len := x.size) (cap := x.size) (w := w) (Nat.le_refl _) hl' hh' h0 h1 h2
    exact ⟨.string (x.extract l.toNat h.toNat), by simp [Instr.sliceAt, Instr.slice, run_underlying (z65 hst), hb], by simp [rel]⟩
   ·cases V
  ·cases V
 | some e =>
  rw [he] at V
  have hu := z2d he
  simp only at V
  split at V
  ·rename_i nn sz els
   simp only [Option.bind_eq_some_iff] at V
   obtain ⟨l, hl, h, hh, V⟩ := V
   split at V
   ·rename_i hc
    obtain ⟨rfl, hne, h0, h1, h2⟩ := hc
    obtain ⟨inf, hinf⟩ := z22 hne
    simp only [Option.some.injEq] at V; subst V
    have hl' := z5u hl hlo hlo'
    have hh' := z5u hh hhi hhi'
    simp only [rel] at hx
    rcases hx with ⟨rfl, rfl, rfl⟩ | ⟨a, cap, vs, rfl, hcap, hmax, hr, hlies⟩
    ·have hb := z66 (P := P) (len := 0) (cap := 0) (w := w) (Nat.le_refl _) hl' hh' h0 h1 h2
     have h2' : h.toNat = 0 := by simp at h2; omega
     have h1' : l.toNat = 0 := by omega
     refine ⟨.slice none 0 0, ?_, ?_⟩
     ·simp [Instr.sliceAt, Instr.slice, run_underlying hu, hb, z1x hinf, h2', h1']
     ·simp [rel]
    ·have hb := z66 (P := P) (len := els.length) (cap := cap) (w := w) hcap hl' hh' h0 h1 h2
     refine ⟨.slice (if cap = l.toNat then some a else some (a.add (l.toNat * z02 P e))) (h.toNat - l.toNat) (cap - l.toNat), ?_, ?_⟩
     ·simp [Instr.sliceAt, Instr.slice, run_underlying hu, hb, z1x hinf]
     ·simp only [rel]
      have hlv := z06 hr
      refine .inr ⟨if cap = l.toNat then a else a.add (l.toNat * z02 P e), cap - l.toNat, (vs.take h.toNat).drop l.toNat, ?_, ?_, by omega, z7v _ (z62 _ hr), ?_⟩
      ·simp only [List.length_drop, List.length_take]
       split <;> (congr 1; omega)
      ·simp only [List.length_drop, List.length_take]; omega
      ·intro j v hj
       simp only [List.getElem?_drop, List.getElem?_take] at hj
       split at hj
       ·rename_i hjl
        have hlt : l.toNat + j < vs.length := by
         rcases Nat.lt_or_ge (l.toNat + j) vs.length with h9 | h9
         ·exact h9
         ·rw [List.getElem?_eq_none h9] at hj; cases hj
        obtain ⟨h5, h6⟩ := hlies _ _ hj
        refine ⟨h5, ?_⟩
        rw [if_neg (by omega), z54, <- Nat.add_mul]
        exact h6
       ·cases hj
   ·cases V
  ·simp only [Option.bind_eq_some_iff] at V
   obtain ⟨l, hl, h, hh, V⟩ := V
   split at V
   ·rename_i hc
    obtain ⟨hne, rfl, rfl⟩ := hc
    obtain ⟨inf, hinf⟩ := z22 hne
    simp only [Option.some.injEq] at V; subst V
    have hl' := z5u hl hlo hlo'
    have hh' := z5u hh hhi hhi'
    simp only [rel] at hx; subst hx
    have hb := z66 (P := P) (len := 0) (cap := 0) (w := w) (Nat.le_refl _) hl' hh' (by omega) (by omega) (by simp)
    exact ⟨.slice none 0 0, by simp [Instr.sliceAt, Instr.slice, run_underlying hu, hb, z1x hinf], by simp [rel]⟩
   ·cases V
  ·cases V

theorem z5c {len cap : Nat} {k k' : IntKind} {h m : Int} {w : World} (h0 : 0 <= h) (h1 : h <= m) (h2 : m <= cap) :
  (Instr.sliceBounds true len cap none (some (.int k h)) (some (.int k' m))).run P w = .ok (0, h.toNat, m.toNat) w := by
 have h3 := z1q (P := P) (k := k') (i := m) (y := cap) (code := .slice3Acap) (w := w) (by omega) (by omega)
 have h4 := z1q (P := P) (k := k) (i := h) (y := m.toNat) (code := .slice3B) (w := w) (by omega) (by omega)
 simp [Instr.sliceBounds, h3, h4]
theorem zl3 {s : RS} {w : World} {t : TypeId} {x d : D} {lo hi : Option D} {mx : D} {vx vm : Value} {vlo vhi : Option Value} (V : z5a P t x lo hi mx = some d) (hx : rel s x vx)
  (hlo' : lo = none -> vlo = none) (hhi : ∀ d, hi = some d -> ∃ v, vhi = some v /\ rel s d v) (hm : rel s mx vm) :
  ∃ u, (Instr.sliceAt t vx vlo vhi (some vm)).run P w = .ok u w /\ rel s d u := by
 unfold z5a at V
 split at V
 ·rename_i e k h k' m he
  have hu := z2d he
  obtain ⟨v, rfl, hv⟩ := hhi _ rfl
  have hv0 := hlo' rfl
  subst hv0
  simp only [rel] at hv hm
  subst hv; subst hm
  split at V
  ·rename_i nn sz els
   split at V
   ·rename_i hc
    obtain ⟨rfl, hne, h0, rfl, h2⟩ := hc
    obtain ⟨inf, hinf⟩ := z22 hne
    simp only [Option.some.injEq] at V; subst V
    simp only [rel] at hx
    rcases hx with ⟨rfl, rfl, rfl⟩ | ⟨a, cap, vs, rfl, hcap, hmax, hr, hlies⟩
    ·have hb := z5c (P := P) (len := 0) (cap := 0) (k := k) (k' := k') (h := h) (m := h) (w := w) h0 (Int.le_refl _) (by simpa using h2)
     have h2' : h.toNat = 0 := by simp at h2; omega
     refine ⟨.slice none 0 0, by simp [Instr.sliceAt, Instr.slice, run_underlying hu, hb, z1x hinf, h2'], ?_⟩
     simp [rel]
    ·have hb := z5c (P := P) (len := els.length) (cap := cap) (k := k) (k' := k') (h := h) (m := h) (w := w) h0 (Int.le_refl _) (by omega)
     refine ⟨.slice (if h.toNat = 0 then some a else some (a.add (0 * z02 P e))) (h.toNat - 0) (h.toNat - 0), ?_, ?_⟩
     ·simp [Instr.sliceAt, Instr.slice, run_underlying hu, hb, z1x hinf]
     ·simp only [rel]
      have hlv := z06 hr
      have hl : (els.take h.toNat).length = h.toNat := by rw [List.length_take]; omega
      refine .inr ⟨if h.toNat = 0 then a else a.add (0 * z02 P e), vs.take h.toNat, ?_, by omega, z62 _ hr, ?_⟩
      ·rw [hl]
       split <;> rfl
      ·intro j v hj
       simp only [List.getElem?_take] at hj
       split at hj
       ·rename_i hjl
        obtain ⟨h5, h6⟩ := hlies _ _ hj
        refine ⟨h5, ?_⟩
        rw [if_neg (by omega), z54, Nat.zero_mul, Nat.zero_add]
        exact h6
       ·cases hj
   ·cases V
  ·split at V
   ·rename_i hc
    obtain ⟨hne, rfl, rfl⟩ := hc
    obtain ⟨inf, hinf⟩ := z22 hne
    simp only [Option.some.injEq] at V; subst V
    simp only [rel] at hx; subst hx
    have hb := z5c (P := P) (len := 0) (cap := 0) (k := k) (k' := k') (h := 0) (m := 0) (w := w) (Int.le_refl _) (Int.le_refl _) (by simp)
    exact ⟨.slice none 0 0, by simp [Instr.sliceAt, Instr.slice, run_underlying hu, hb, z1x hinf], by simp [rel]⟩
   ·cases V
  ·cases V
 ·cases V
end Go.Proofs.YtppebcifiejplaaGreatDoor.Abs
namespace Go.Proofs.YtppebcifiejplaaGreatDoor.Abs
open Go.RowKit
variable {P : Program}

theorem z8c (off : Nat) : ∀ (us : List Value) (k : Nat) (cs : Array Value),
  ((us.zipIdx k).foldl (fun cs x => cs.setIfInBounds (off + x.2) x.1) cs).toList = z11 cs.toList (off + k) us
 | [], k, cs => by simp [z11]
 | u :: us, k, cs => by
  simp only [List.zipIdx_cons, List.foldl_cons, z11]
  rw [z8c off us (k + 1) _]
  simp [Nat.add_assoc]

def z95 (s : RS) : List (Nat × D) -> List (Nat × Value) -> Prop
 | [], ps => ps = []
 | (i, d) :: r, ps => ∃ v q, ps = (i, v) :: q /\ rel s d v /\ z95 s r q

theorem zbh {s : RS} {place : Nat -> Option (Nat × Nat)} : ∀ {parts : List (Nat × D)} {vparts : List (Nat × Value)} {cs cs' : List D} {vs : List Value},
  zhw place cs parts = some cs' -> z95 s parts vparts -> relAll s cs vs -> z5t vs ->
  ∃ vs', Instr.fill place vs.toArray vparts = some (List.toArray vs') /\ relAll s cs' vs' /\ z5t vs'
 | [], vparts, cs, cs', vs, h, hp, hr, h1 => by
  simp only [z95] at hp; subst hp
  simp only [zhw, Option.some.injEq] at h; subst h
  exact ⟨vs, rfl, hr, h1⟩
 | (i, d) :: r, vparts, cs, cs', vs, h, hp, hr, h1 => by
  simp only [z95] at hp
  obtain ⟨v, q, rfl, hv, hq⟩ := hp
  simp only [zhw] at h
  split at h
  ·rename_i off size ds hpl hds
   split at h
   ·rename_i hc
    obtain ⟨hc1, hc2⟩ := hc
    obtain ⟨hrv, hov⟩ := z92 hv hds
    have hsz := zcs hv hds
    have hlv := z06 hr
    obtain ⟨vs', h3, h4, h5⟩ := zbh (s := s) h hq (z5p off hrv hr) (z7z off hov h1)
    refine ⟨vs', ?_, h4, h5⟩
    simp only [Instr.fill, hpl]
    rw [if_neg (by simp; omega)]
    rw [<- h3]
    congr 1
    apply Array.ext'
    have := z8c off v.cells.toList 0 vs.toArray
    simp only [Nat.add_zero] at this
    rw [<- this]
    rw [<- Array.foldl_toList, Array.toList_zipIdx]
   ·cases h
  ·cases h

theorem zac {t : TypeId} {zs : List D} (h : z17 P t = some zs) :
  ∃ z : Value, (∀ w, (zeroValue t).run P w = .ok z w) /\ (∀ s, relAll s zs z.cells.toList) /\ z5t z.cells.toList /\ z.cells.size = z02 P t := by
 unfold z17 at h
 simp only [Option.bind_eq_some_iff] at h
 obtain ⟨z, ⟨i, hi, hz⟩, h⟩ := h
 split at h
 ·rename_i hc
  cases h
  refine ⟨z, fun w => by simp [zeroValue, typeInfo, hi, hz], fun s => z9s s _, fun u hu => by simpa using List.all_eq_true.1 hc.2 u hu, hc.1⟩
 ·cases h

theorem zo8 {fs : List Field} (h : fs.all (fun f => (P.info? f.type).isSome) = true) (w : World) :
  (fs.mapM fun f => do pure (f.offset, <- sizeOf f.type) : Sem (List (Nat × Nat))).run P w = .ok (fs.map fun f => (f.offset, z02 P f.type)) w := by
 induction fs with
 | nil => simp
 | cons f fs ih =>
  simp only [List.all_cons, Bool.and_eq_true] at h
  obtain ⟨i, hi⟩ := Option.isSome_iff_exists.1 h.1
  have ih' := ih h.2
  simp only [List.mapM_cons, Sem.run_bind, Sem.run_pure, z1x hi, Result.andThen_ok, ih', List.map_cons]

theorem zlb {s : RS} {w : World} {t : TypeId} {parts : List (Nat × D)} {vparts : Array (Nat × Value)} {d : D} (V : z86 P t parts = some d) (hp : z95 s parts vparts.toList) :
  ∃ u, (Instr.build t vparts).run P w = .ok u w /\ rel s d u := by
 unfold z86 at V
 cases hz : z17 P t with
 | none => rw [hz] at V; cases V
 | some zs =>
  rw [hz] at V
  simp only at V
  obtain ⟨z, hzr, hzrel, hzo, hzs⟩ := zac hz
  cases hu : P.underlying t with
  | none => rw [hu] at V; cases V
  | some desc =>
   rw [hu] at V
   cases desc <;> first | (cases V; done) | skip
   case struct fs =>
    simp only at V
    split at V
    ·rename_i hok
     simp only [Option.map_eq_some_iff] at V
     obtain ⟨cs', hf, rfl⟩ := V
     simp only [z2n, hu] at hok
     obtain ⟨vs', h3, h4, h5⟩ := zbh (s := s) (vs := z.cells.toList) hf hp (hzrel s) hzo
     refine ⟨.agg vs'.toArray, ?_, ?_⟩
     ·have hpl : (fs.mapM fun f => do pure (f.offset, <- sizeOf f.type) : Sem (Array (Nat × Nat))).run P w = .ok (fs.map fun f => (f.offset, z02 P f.type)) w := by
       rw [Array.mapM_eq_mapM_toList]
       simp only [Sem.run_map, zo8 hok w, Result.andThen_ok]
       congr 1
       apply Array.ext'
       simp
      have hfun : (fun i => Option.map (fun x => match x with | (o, ft) => (o, z02 P ft)) (z0y P t i)) = fun i => (fs.map fun f => (f.offset, z02 P f.type))[i]? := by
       funext i
       simp only [z0y, hu, Array.getElem?_map, Option.map_map]
       rfl
      rw [hfun] at h3
      simp only [Array.toArray_toList] at h3
      simp only [Instr.build, Sem.run_bind, hzr, Result.andThen_ok, run_underlying hu, hpl, h3, Sem.run_pure]
     ·simp only [rel]; exact ⟨vs', rfl, h4, h5⟩
    ·cases V
   case array n e =>
    simp only at V
    split at V
    ·rename_i hne
     simp only [Option.map_eq_some_iff] at V
     obtain ⟨cs', hf, rfl⟩ := V
     obtain ⟨inf, hinf⟩ := z22 hne
     obtain ⟨vs', h3, h4, h5⟩ := zbh (s := s) (vs := z.cells.toList) hf hp (hzrel s) hzo
     refine ⟨.agg vs'.toArray, ?_, ?_⟩
     ·simp only [Array.toArray_toList] at h3
      simp only [Instr.build, Sem.run_bind, hzr, Result.andThen_ok, run_underlying hu, z1x hinf, h3, Sem.run_pure]
     ·simp only [rel]; exact ⟨vs', rfl, h4, h5⟩
    ·cases V

theorem z8d {s : RS} {n : Nat} : ∀ {ds cs : List D} {vs : List Value}, z1h n ds = some cs -> relAll s ds vs ->
  relAll s cs (vs.flatMap (·.cells.toList)) /\ z5t (vs.flatMap (·.cells.toList)) /\ (∀ v ∈ vs, v.cells.size = n)
 | [], cs, vs, h, hr => by
  simp only [relAll] at hr; subst hr
  simp only [z1h, Option.some.injEq] at h; subst h
  exact ⟨by simp [relAll], by simp [z5t], by simp⟩
 | d :: ds, cs, vs, h, hr => by
  simp only [relAll] at hr
  obtain ⟨v, r, rfl, hv, hr⟩ := hr
  simp only [z1h] at h
  split at h
  ·rename_i c q hc hq
   split at h
   ·rename_i hl
    cases h
    obtain ⟨h1, h2, h3⟩ := z8d hq hr
    obtain ⟨h4, h5⟩ := z92 hv hc
    refine ⟨by simpa using z1n h4 h1, by simpa using z3y h5 h2, fun u hu => ?_⟩
    rcases List.mem_cons.1 hu with rfl | hu
    ·rw [zcs hv hc]; exact hl
    ·exact h3 u hu
   ·cases h
  ·cases h

theorem z9t {n : Nat} : ∀ {vs : List Value}, (∀ v ∈ vs, v.cells.size = n) -> (vs.flatMap (·.cells.toList)).length = vs.length * n
 | [], _ => by simp
 | v :: vs, h => by
  simp only [List.flatMap_cons, List.length_append, Array.length_toList, List.length_cons, h v (by simp)]
  rw [z9t (fun u hu => h u (List.mem_cons_of_mem _ hu)), Nat.add_mul]; omega
theorem zgx {n : Nat} : ∀ {vs : List Value}, (∀ v ∈ vs, v.cells.size = n) -> ∀ (i : Nat) (v : Value) (j : Nat) (c : Value), vs[i]? = some v -> v.cells.toList[j]? = some c ->
  (vs.flatMap (·.cells.toList))[i * n + j]? = some c
 | [], _, i, v, j, c, hi, _ => by simp at hi
 | u :: vs, h, 0, v, j, c, hi, hj => by
  simp at hi; subst hi
  simp only [List.flatMap_cons, Nat.zero_mul, Nat.zero_add]
  rw [List.getElem?_append_left]
  ·exact hj
  ·rcases Nat.lt_or_ge j u.cells.toList.length with h1 | h1
   ·exact h1
   ·rw [List.getElem?_eq_none h1] at hj; cases hj
 | u :: vs, h, i + 1, v, j, c, hi, hj => by
  have hu : u.cells.toList.length = n := by simpa using h u (by simp)
  simp only [List.flatMap_cons]
  rw [List.getElem?_append_right (by rw [hu, Nat.add_mul]; omega), hu]
  have : (i + 1) * n + j - n = i * n + j := by rw [Nat.add_mul]; omega
  rw [this]
  exact zgx (fun x hx => h x (List.mem_cons_of_mem _ hx)) i v j c (by simpa using hi) hj

theorem zmn {n : Nat} : ∀ (vs : List Value) (k : Nat) (A : List Value), (∀ v ∈ vs, v.cells.size = n) -> A.length = (k + vs.length) * n ->
    Instr.fill (fun i => some (i * n, n)) A.toArray ((List.range' k vs.length).zip vs) = some ((A.take (k * n) ++ vs.flatMap (·.cells.toList)).toArray)
  | [], k, A, _, hl => by
    simp only [List.length_nil, Nat.add_zero] at hl
    simp [Instr.fill, <- hl]
  | v :: vs, k, A, h, hl => by
    have hv : v.cells.size = n := h v (by simp)
    simp only [List.length_cons] at hl ⊢
    simp only [List.range'_succ, List.zip_cons_cons, Instr.fill]
    have hle : k * n + n <= A.length := by rw [hl]; have : (k + (vs.length + 1)) * n = k * n + n + vs.length * n := by rw [Nat.add_mul, Nat.add_mul]; omega
                                           omega
    rw [if_neg (by simp [hv]; omega)]
    have hsp : (v.cells.zipIdx.foldl (fun cs x => cs.setIfInBounds (k * n + x.2) x.1) A.toArray) = (z11 A (k * n) v.cells.toList).toArray := by
      apply Array.ext'
      have := z8c (k * n) v.cells.toList 0 A.toArray
      simp only [Nat.add_zero] at this
      rw [<- Array.foldl_toList, Array.toList_zipIdx]
      exact this
    have ih := zmn vs (k + 1) (z11 A (k * n) v.cells.toList) (fun u hu => h u (List.mem_cons_of_mem _ hu)) (by rw [z7y, hl]; congr 1; omega)
    have hgoal : (z11 A (k * n) v.cells.toList).take ((k + 1) * n) = A.take (k * n) ++ v.cells.toList := by
      rw [z94 _ _ _ (by simp [hv]; omega)]
      have : (k + 1) * n = (A.take (k * n) ++ v.cells.toList).length := by
        simp [hv, Nat.add_mul]; omega
      rw [this, List.take_left]
    rw [hgoal] at ih
    simp only [List.flatMap_cons, <- List.append_assoc]
    rw [<- ih]
    congr 1

theorem zdl {s : RS} (ρ : Operand -> Value) (ev : Operand -> D) (h : ∀ x, rel s (ev x) (ρ x)) : ∀ (parts : List (Nat × Operand)),
  z95 s (parts.map fun x => (x.1, ev x.2)) (parts.map fun x => (x.1, ρ x.2))
 | [] => rfl
 | _ :: ps => ⟨_, _, rfl, h _, zdl ρ ev h ps⟩
theorem z5q {s : RS} (ρ : Operand -> Value) (ev : Operand -> D) (h : ∀ x, rel s (ev x) (ρ x)) : ∀ (xs : List Operand), relAll s (xs.map ev) (xs.map ρ)
 | [] => z0q
 | x :: xs => z0m (h x) (z5q ρ ev h xs)

theorem z4v {t : TypeId} (h : z0g P t = true) : ∃ i z, P.info? t = some i /\ i.zero = some z /\ z.cells.size = z02 P t := by
 unfold z0g at h
 cases hi : P.info? t with
 | none => rw [hi] at h; simp at h
 | some i =>
  rw [hi] at h
  cases hz : i.zero with
  | none => simp [hz] at h
  | some z => simp [hz] at h; exact ⟨i, z, rfl, hz, h⟩

theorem zfi {t e : TypeId} {len : Nat} {vparts : Array (Nat × Value)} {vs : List Value} {w : World} (hu : P.underlying t = some (.slice e)) (hsz : z02 P e ≠ 0)
  (hle : len * z02 P e <= 2 ^ 24) (hz : len = 0 \/ z0g P e = true) (hp : vparts.toList = (List.range len).zip vs) (hl : vs.length = len) (hvs : ∀ v ∈ vs, v.cells.size = z02 P e) :
  (Instr.buildSlice t len vparts).run P w = .ok (.slice (some ⟨w.heap.size, 0, none⟩) len len) (w.alloc (.cells (vs.flatMap (·.cells.toList)).toArray e)) := by
 obtain ⟨inf, hinf⟩ := z22 hsz
 have hfill : ∀ z : Array Value, Instr.fill (fun i => some (i * z02 P e, z02 P e)) ((Array.range (len * z02 P e)).map fun x => z[x % z.size]!) vparts.toList = some (vs.flatMap (·.cells.toList)).toArray := by
  intro z
  have := zmn (n := z02 P e) vs 0 ((Array.range (len * z02 P e)).map fun x => z[x % z.size]!).toList hvs (by simp [hl])
  simp only [Nat.zero_mul, List.take_zero, List.nil_append, hl, Array.toArray_toList] at this
  rw [hp, List.range_eq_range']
  exact this
 have hle' : ¬ (len * z02 P e > 2 ^ 24) := by omega
 by_cases h0 : len * z02 P e = 0
 ·simp only [Instr.buildSlice, Sem.run_bind, run_underlying hu, Result.andThen_ok, z1x hinf, if_neg hle', if_pos h0, Sem.run_pure, hfill #[], newRow, run_newObj]
  rfl
 ·rcases hz with rfl | hz
  ·exact (h0 (by simp)).elim
  ·obtain ⟨i, z, hi, hz, _⟩ := z4v hz
   have hzv : (zeroValue e).run P w = .ok z w := by simp [zeroValue, typeInfo, hi, hz]
   simp only [Instr.buildSlice, Sem.run_bind, run_underlying hu, Result.andThen_ok, z1x hinf, if_neg hle', if_neg h0, hzv, Sem.run_pure, hfill z.cells, newRow, run_newObj]
   rfl

theorem zrp {s : RS} {w : World} {op : UnOp} {x d : D} {v : Value} (V : unD op x = some d) (hx : rel s x v) : ∃ u, (Op.unary op v).run P w = .ok u w /\ rel s d u := by
 unfold unD at V
 split at V
 ·split at V <;> first | (cases V; done) | skip
  cases V
  simp only [rel] at hx; subst hx
  exact ⟨_, by simp [Op.unary]; rfl, by simp [rel]⟩
 ·split at V <;> first | (cases V; done) | skip
  cases V
  simp only [rel] at hx; subst hx
  exact ⟨_, by simp [Op.unary, Op.intArith]; rfl, by simp [rel]⟩
 ·cases V

theorem zo9 {s : RS} {w : World} (h : RH P s w) {t ty : TypeId} {x d : D} {v : Value} (V : zrc P s.H t x = some d) (hx : rel s x v) : ∃ u, (Builtin.len_ #[t] ty #[v]).run P w = .ok u w /\ rel s d u := by
 unfold zrc at V
 split at V
 ·rename_i nn sz els
  simp only [Option.map_eq_some_iff] at V
  obtain ⟨e, he, rfl⟩ := V
  simp only [rel] at hx
  rcases hx with ⟨_, rfl, rfl⟩ | ⟨a, cap, vs, rfl, _⟩
  ·exact ⟨_, by simp [Builtin.len_, run_underlying (z2d he), goInt]; rfl, by simp [rel]⟩
  ·exact ⟨_, by simp [Builtin.len_, run_underlying (z2d he), goInt]; rfl, by simp [rel]⟩
 ·simp only [Option.map_eq_some_iff] at V
  obtain ⟨e, he, rfl⟩ := V
  simp only [rel] at hx; subst hx
  exact ⟨_, by simp [Builtin.len_, run_underlying (z2d he), goInt]; rfl, by simp [rel]⟩
 ·simp only [Option.map_eq_some_iff] at V
  obtain ⟨e, he, rfl⟩ := V
  simp only [rel] at hx
  obtain ⟨_, ⟨a, c, rfl⟩, _⟩ := hx
  exact ⟨_, by simp [Builtin.len_, run_underlying (z2d he), goInt]; rfl, by simp [rel]⟩
 ·rename_i id
  split at V
  ·rename_i es hes
   simp only [Option.map_eq_some_iff] at V
   obtain ⟨⟨k, e⟩, he, rfl⟩ := V
   simp only [rel] at hx
   obtain ⟨_, _, hx⟩ := hx
   have hv := hx _ hes rfl
   obtain ⟨r, ens, c, O, hh, hr1, hr2, _⟩ := (h.obj _ _ hes).2
   rw [O] at hv; subst hv
   have hl := z06 hr1
   simp only [List.length_map, Array.length_toList] at hl
   exact ⟨.int .i64 ens.size, by simp [Builtin.len_, run_underlying (zfd he), getObj, Sem.run, hh, goInt], by simp [rel, hl]⟩
  ·cases V
 ·split at V
  ·rename_i hs
   cases V
   simp only [rel] at hx; subst hx
   exact ⟨_, by simp [Builtin.len_, run_underlying (z65 hs), goInt]; rfl, by simp [rel]⟩
  ·cases V
 ·cases V

end Go.Proofs.YtppebcifiejplaaGreatDoor.Abs
namespace Go.Proofs.YtppebcifiejplaaGreatDoor.Abs
open Go.RowKit
variable {P : Program}

theorem zgy (a b : ByteArray) : (a.toList == b.toList) = decide (a = b) := by
 rw [ByteArray.toList_eq, ByteArray.toList_eq]
 obtain ⟨⟨x⟩⟩ := a
 obtain ⟨⟨y⟩⟩ := b
 by_cases h : x = y
 ·subst h; simp
 ·have h1 : (x == y) = false := by simpa using h
  show (x == y) = _
  rw [h1]
  symm
  simp only [decide_eq_false_iff_not]
  intro e
  apply h
  injection e with e1
  injection e1

theorem zdm (s : RS) : ∀ (n : Nat) (d : Nat) (t : TypeId) (x y : D) (vx vy : Value) (r : Bool), n <= d -> eqD P n t x y = some r -> rel s x vx -> rel s y vy ->
  ∀ w, (Op.equalIn d t vx vy).run P w = .ok r w := by
 intro n
 induction n with
 | zero => intro d t x y vx vy r _ h; simp [eqD] at h
 | succ n ih =>
  intro d t x y vx vy r V h hx hy w
  obtain ⟨d, rfl⟩ : ∃ d', d = d' + 1 := ⟨d - 1, by omega⟩
  simp only [eqD] at h
  split at h
  ·rename_i hu
   cases h; simp only [rel] at hx hy; subst hx; subst hy
   simp [Op.equalIn, run_underlying hu]
  ·rename_i hu
   split at h
   ·rename_i O
    cases h; simp only [rel] at hx hy; subst hx; subst hy; subst O
    simp [Op.equalIn, run_underlying hu]
   ·cases h
  ·rename_i hu
   cases h; simp only [rel] at hx hy; subst hx; subst hy
   simp [Op.equalIn, run_underlying hu, beq_toListBytes, zgy]
  ·rename_i fs xs ys hu
   split at h
   ·rename_i hstood
    simp only [rel] at hx hy
    obtain ⟨vxs, rfl, hxr, hxo⟩ := hx
    obtain ⟨vys, rfl, hyr, hyo⟩ := hy
    have hfo : P.fieldsOf t = fs := by simp [Program.fieldsOf, hu]
    rw [run_equalIn_struct w d t _ _ (by rw [hfo]; exact hu) hstood, hfo]
    generalize fs.toList = l at h
    clear hu hfo
    induction l with
    | nil => simp only [z1a, Option.some.injEq] at h; subst h; simp [Op.eqFields]
    | cons f l ihl =>
     simp only [z1a] at h
     simp only [Op.eqFields]
     split at h
     ·rename_i hne
      rw [if_pos hne]
      split at h
      ·rename_i a b ha hb
       obtain ⟨ua, hua, _, _, hpa⟩ := z4m ha hxr hxo
       obtain ⟨ub, hub, _, _, hpb⟩ := z4m hb hyr hyo
       split at h
       ·rename_i r' hr'
        have h1 := ih d f.type a b ua ub r' (by omega) hr' hua hub w
        simp only [Sem.run_bind, hpa, hpb, Result.andThen_ok, h1, Sem.run_ite]
        split at h
        ·rename_i hrt
         subst hrt
         simp only [Bool.not_true, Bool.false_eq_true, if_false]
         exact ihl h
        ·rename_i hrf
         cases h
         have : r' = false := by simpa using hrf
         subst this
         simp
       ·cases h
      ·cases h
     ·rename_i hne
      rw [if_neg hne]
      exact ihl h
   ·cases h
  ·cases h

theorem zi4 {op : BinOp} {a b : Int} {r : Bool} {w : World} (h : zkv op a b = some r) : (Op.intCmp op a b).run P w = .ok (.bool r) w := by
 unfold zkv at h
 split at h <;> first | (cases h; done) | skip
 all_goals cases h
 ·simp only [Op.intCmp, Sem.run_pure]
  congr 2
 ·simp only [Op.intCmp, Sem.run_pure]
  congr 2
  by_cases h : a = b <;> simp [h]
 ·simp [Op.intCmp]
 ·simp [Op.intCmp]
 ·simp [Op.intCmp]
 ·simp [Op.intCmp]

set_option maxHeartbeats 1000000 in
theorem zi5 {s : RS} {w : World} {op : BinOp} {t : TypeId} {x y : Operand} {k k' : IntKind} {a b : Int} {d : D} (V : zrb P op t (.int k a) (.int k' b) = some d) :
  ∃ u, (do eqGuard op t x y (.int k a) (.int k' b); binOp op t (.int k a) (.int k' b) : Sem Value).run P w = .ok u w /\ rel s d u := by
 simp only [zrb] at V
 have hg : (eqGuard op t x y (.int k a) (.int k' b)).run P w = .ok () w := by
  unfold eqGuard; cases op <;> simp
 simp only [Sem.run_bind, hg, Result.andThen_ok]
 clear hg
 split at V
 ·split at V <;> first | (cases V; done) | skip
  rename_i hb
  cases V
  exact ⟨_, by simp [binOp, Op.shift, Int.not_lt.2 hb]; rfl, by simp [rel]⟩
 ·split at V <;> first | (cases V; done) | skip
  rename_i hb
  cases V
  exact ⟨_, by simp [binOp, Op.shift, Int.not_lt.2 hb]; rfl, by simp [rel]⟩
 ·split at V <;> first | (cases V; done) | skip
  rename_i O; subst O; cases V
  exact ⟨_, by simp [binOp, Op.intArith]; rfl, by simp [rel]⟩
 ·split at V <;> first | (cases V; done) | skip
  rename_i O; subst O; cases V
  exact ⟨_, by simp [binOp, Op.intArith]; rfl, by simp [rel]⟩
 ·split at V <;> first | (cases V; done) | skip
  rename_i O; subst O; cases V
  exact ⟨_, by simp [binOp, Op.intArith]; rfl, by simp [rel]⟩
 ·split at V <;> first | (cases V; done) | skip
  rename_i O; obtain ⟨rfl, hb⟩ := O; cases V
  exact ⟨_, by simp [binOp, Op.intDiv, hb]; rfl, by simp [rel]⟩
 ·split at V <;> first | (cases V; done) | skip
  rename_i O; obtain ⟨rfl, hb⟩ := O; cases V
  exact ⟨_, by simp [binOp, Op.intDiv, hb]; rfl, by simp [rel]⟩
 ·split at V <;> first | (cases V; done) | skip
  rename_i O; subst O
  simp only [zw0, Option.map_some, Option.some.injEq] at V; subst V
  exact ⟨_, by simp [binOp, Op.intBits]; rfl, by simp [rel]⟩
 ·split at V <;> first | (cases V; done) | skip
  rename_i O; subst O
  simp only [zw0, Option.map_some, Option.some.injEq] at V; subst V
  exact ⟨_, by simp [binOp, Op.intBits]; rfl, by simp [rel]⟩
 ·split at V <;> first | (cases V; done) | skip
  rename_i O; subst O
  simp only [zw0, Option.map_some, Option.some.injEq] at V; subst V
  exact ⟨_, by simp [binOp, Op.intBits]; rfl, by simp [rel]⟩
 ·split at V <;> first | (cases V; done) | skip
  rename_i O; subst O
  simp only [zw0, Option.map_some, Option.some.injEq] at V; subst V
  exact ⟨_, by simp [binOp, Op.intBits]; rfl, by simp [rel]⟩
 ·split at V <;> first | (cases V; done) | skip
  rename_i O; subst O
  simp only [Option.map_eq_some_iff] at V
  obtain ⟨r, hr, rfl⟩ := V
  have := zi4 (P := P) (w := w) hr
  refine ⟨.bool r, ?_, by simp [rel]⟩
  rw [<- this]
  cases op <;> first | (simp [zkv] at hr; done) | simp [binOp]

theorem z96 (t : TypeId) (x y : Value) : Op.equal t x y = Op.equalIn (9999 + 1) t x y := rfl
theorem zi6 {t : TypeId} (h : z1k P t = true) (a b : Bool) (w : World) : (binOp .eql t (.bool a) (.bool b)).run P w = .ok (.bool (a == b)) w := by
 show (do pure (Value.bool (<- Op.equal t (.bool a) (.bool b))) : Sem Value).run P w = _
 rw [z96]
 simp only [Sem.run_bind, run_equalIn_bool' w 9999 t a b (zgv h), Result.andThen_ok, Sem.run_pure]
theorem zi7 {t : TypeId} (h : z1k P t = true) (a b : Bool) (w : World) : (binOp .neq t (.bool a) (.bool b)).run P w = .ok (.bool (a != b)) w := by
 show (do pure (Value.bool (!(<- Op.equal t (.bool a) (.bool b)))) : Sem Value).run P w = _
 rw [z96]
 simp only [Sem.run_bind, run_equalIn_bool' w 9999 t a b (zgv h), Result.andThen_ok, Sem.run_pure]
 rfl
theorem z97 {t : TypeId} {x y : Value} {r : Bool} {w : World} (h : (Op.equal t x y).run P w = .ok r w) (hx : ∀ k n, x ≠ .int k n) (hx' : ∀ k n, x ≠ .float k n) (hx2 : ∀ k n m, x ≠ .complex k n m) (hx3 : ∀ z, x ≠ .string z) :
  (binOp .eql t x y).run P w = .ok (.bool r) w := by
 have : binOp .eql t x y = (do pure (Value.bool (<- Op.equal t x y)) : Sem Value) := by
  unfold binOp
  cases x <;> first | rfl | (exfalso; first | exact hx _ _ rfl | exact hx' _ _ rfl | exact hx2 _ _ _ rfl | exact hx3 _ rfl)
 rw [this]
 simp only [Sem.run_bind, h, Result.andThen_ok, Sem.run_pure]
theorem z98 {t : TypeId} {x y : Value} {r : Bool} {w : World} (h : (Op.equal t x y).run P w = .ok r w) (hx : ∀ k n, x ≠ .int k n) (hx' : ∀ k n, x ≠ .float k n) (hx2 : ∀ k n m, x ≠ .complex k n m) (hx3 : ∀ z, x ≠ .string z) :
  (binOp .neq t x y).run P w = .ok (.bool (!r)) w := by
 have : binOp .neq t x y = (do pure (Value.bool (!(<- Op.equal t x y))) : Sem Value) := by
  unfold binOp
  cases x <;> first | rfl | (exfalso; first | exact hx _ _ rfl | exact hx' _ _ rfl | exact hx2 _ _ _ rfl | exact hx3 _ rfl)
 rw [this]
 simp only [Sem.run_bind, h, Result.andThen_ok, Sem.run_pure]
theorem zad {op : BinOp} {t : TypeId} {x y : Operand} {a b : Array Value} {w : World} (h : P.eqGuardType P.depth t = false) : (eqGuard op t x y (.agg a) (.agg b)).run P w = .ok () w := by
 unfold eqGuard; cases op <;> simp [h]
theorem z46 {op : BinOp} {t : TypeId} {x y : Operand} {a : Option Addr} {n c : Nat} {v : Value} {w : World} : (eqGuard op t x y (.slice a n c) v).run P w = .ok () w := by
 unfold eqGuard; cases op <;> simp
theorem zdn (d : Nat) {t e : TypeId} (hu : P.underlying t = some (.slice e)) (a : Option Addr) (n c : Nat) (w : World) : (Op.equalIn (d + 1) t (.slice a n c) (.slice none 0 0)).run P w = .ok a.isNone w := by
 cases a <;> simp [Op.equalIn, run_underlying hu]
theorem zae {t e : TypeId} (hu : P.underlying t = some (.slice e)) (a : Option Addr) (n c : Nat) (w : World) : (Op.equal t (.slice a n c) (.slice none 0 0)).run P w = .ok a.isNone w := by
 rw [z96]
 exact zdn 9999 hu a n c w

theorem zaf {op : BinOp} {t : TypeId} {x y : Operand} {a : Option Addr} {v : Value} {w : World} : (eqGuard op t x y (.pointer a) v).run P w = .ok () w := by
 unfold eqGuard; cases op <;> simp
theorem zdo (d : Nat) {t e : TypeId} (hu : P.underlying t = some (.pointer e)) (a : Option Addr) (w : World) : (Op.equalIn (d + 1) t (.pointer a) (.pointer none)).run P w = .ok a.isNone w := by
 cases a <;> simp [Op.equalIn, run_underlying hu]
theorem z79 {t e : TypeId} (hu : P.underlying t = some (.pointer e)) (a : Option Addr) (w : World) : (Op.equal t (.pointer a) (.pointer none)).run P w = .ok a.isNone w := by
 rw [z96]
 exact zdo 9999 hu a w
theorem zrq {t : TypeId} (h : zrh P t = true) : ∃ e, P.underlying t = some (.pointer e) := by
 unfold zrh at h
 split at h
 ·exact ⟨_, by assumption⟩
 ·cases h
set_option maxHeartbeats 1000000 in
theorem zoa {s : RS} {w : World} {op : BinOp} {t : TypeId} {x y : Operand} {dx dy d : D} {vx vy : Value} (V : zrb P op t dx dy = some d) (hx : rel s dx vx) (hy : rel s dy vy) :
  ∃ u, (do eqGuard op t x y vx vy; binOp op t vx vy : Sem Value).run P w = .ok u w /\ rel s d u := by
 unfold zrb at V
 split at V
 ·rename_i k a k' b
  simp only [rel] at hx hy; subst hx; subst hy
  exact zi5 (by simpa only [zrb] using V)
 ·rename_i a b
  simp only [rel] at hx hy; subst hx; subst hy
  have hg : (eqGuard op t x y (.bool a) (.bool b)).run P w = .ok () w := by
   unfold eqGuard; cases op <;> simp
  simp only [Sem.run_bind, hg, Result.andThen_ok]
  split at V
  ·split at V <;> first | (cases V; done) | skip
   rename_i hb; cases V
   exact ⟨.bool (a == b), zi6 hb a b w, by simp [rel]⟩
  ·split at V <;> first | (cases V; done) | skip
   rename_i hb; cases V
   exact ⟨.bool (a != b), zi7 hb a b w, by simp [rel]⟩
  ·cases V
 ·rename_i a b
  simp only [rel] at hx hy; subst hx; subst hy
  have hg : (eqGuard op t x y (.string a) (.string b)).run P w = .ok () w := by
   unfold eqGuard; cases op <;> simp
  simp only [Sem.run_bind, hg, Result.andThen_ok]
  split at V
  ·cases V
   exact ⟨.bool (decide (a = b)), by simp only [binOp, Op.stringOp, zgy]; rfl, by simp [rel]⟩
  ·cases V
   exact ⟨.bool (decide (a ≠ b)), by simp only [binOp, Op.stringOp, zgy]; simp, by simp [rel]⟩
  ·cases V
   exact ⟨_, by simp only [binOp, Op.stringOp]; rfl, by simp [rel]⟩
  ·split at V
   ·rename_i hle
    cases V
    have hg2 : ¬ (((a.size + b.size : Nat) : Int) > IntKind.i64.max) := by
     have : IntKind.i64.max = 9223372036854775807 := rfl
     omega
    exact ⟨.string (a ++ b), by simp only [binOp, Op.stringOp, if_neg hg2]; rfl, by simp [rel]⟩
   ·cases V
  ·cases V
 ·rename_i a b
  have hx' := hx
  have hy' := hy
  simp only [rel] at hx hy
  obtain ⟨vs, rfl, hr, ho⟩ := hx
  obtain ⟨us, rfl, hr', ho'⟩ := hy
  split at V
  ·split at V <;> first | (cases V; done) | skip
   rename_i hge
   simp only [Option.map_eq_some_iff] at V
   obtain ⟨r, hr, rfl⟩ := V
   have := zdm (P := P) s 8 Op.maxDepth t _ _ _ _ r (by decide) hr hx' hy' w
   exact ⟨.bool r, by simp only [Sem.run_bind, zad hge, Result.andThen_ok]; exact z97 this (by simp) (by simp) (by simp) (by simp), by simp [rel]⟩
  ·split at V <;> first | (cases V; done) | skip
   rename_i hge
   simp only [Option.map_eq_some_iff] at V
   obtain ⟨r, hr, rfl⟩ := V
   have := zdm (P := P) s 8 Op.maxDepth t _ _ _ _ r (by decide) hr hx' hy' w
   exact ⟨.bool (!r), by simp only [Sem.run_bind, zad hge, Result.andThen_ok]; exact z98 this (by simp) (by simp) (by simp) (by simp), by simp [rel]⟩
  ·cases V
 ·have hy0 : vy = .slice none 0 0 := by simpa only [rel] using hy
  subst hy0
  have key : ∀ (b : Bool), zcr dx = some b -> (dx = .nil \/ ∃ nn sz els, dx = .rsl nn sz els) -> ∀ e, z0x P t = some e ->
    ∃ a n c, vx = .slice a n c /\ (Op.equal t vx (.slice none 0 0)).run P w = .ok b w := by
   intro b hb hs e he
   have hu := z2d he
   rcases hs with rfl | ⟨nn, sz, els, rfl⟩
   ·simp only [rel] at hx; subst hx
    simp only [zcr, Option.some.injEq] at hb; subst hb
    exact ⟨_, _, _, rfl, zae hu _ _ _ w⟩
   ·have hbf : b = false := by
     cases nn with
     | true => simp only [zcr, Option.some.injEq] at hb; exact hb.symm
     | false => cases els <;> simp only [zcr, Option.some.injEq, reduceCtorEq] at hb; exact hb.symm
    subst hbf
    simp only [rel] at hx
    rcases hx with ⟨rfl, rfl, rfl⟩ | ⟨a, cap, vs, rfl, _⟩
    ·simp [zcr] at hb
    ·exact ⟨_, _, _, rfl, zae hu _ _ _ w⟩
  split at V
  ·rename_i e he
   split at V
   ·rename_i heq
    simp only [Option.map_eq_some_iff] at V
    obtain ⟨b, hb, rfl⟩ := V
    obtain ⟨a, n, c, rfl, hrun⟩ := key b hb (.inl rfl) e he
    exact ⟨.bool b, by simp only [Sem.run_bind, z46, Result.andThen_ok]; exact z97 hrun (by simp) (by simp) (by simp) (by simp), by simp [rel]⟩
   ·simp only [Option.map_eq_some_iff] at V
    obtain ⟨b, hb, rfl⟩ := V
    obtain ⟨a, n, c, rfl, hrun⟩ := key b hb (.inr ⟨_, _, _, rfl⟩) e he
    exact ⟨.bool b, by simp only [Sem.run_bind, z46, Result.andThen_ok]; exact z97 hrun (by simp) (by simp) (by simp) (by simp), by simp [rel]⟩
   ·cases V
  ·rename_i e he
   split at V
   ·simp only [Option.map_eq_some_iff] at V
    obtain ⟨b, hb, rfl⟩ := V
    obtain ⟨a, n, c, rfl, hrun⟩ := key b hb (.inl rfl) e he
    exact ⟨.bool (!b), by simp only [Sem.run_bind, z46, Result.andThen_ok]; exact z98 hrun (by simp) (by simp) (by simp) (by simp), by simp [rel]⟩
   ·simp only [Option.map_eq_some_iff] at V
    obtain ⟨b, hb, rfl⟩ := V
    obtain ⟨a, n, c, rfl, hrun⟩ := key b hb (.inr ⟨_, _, _, rfl⟩) e he
    exact ⟨.bool (!b), by simp only [Sem.run_bind, z46, Result.andThen_ok]; exact z98 hrun (by simp) (by simp) (by simp) (by simp), by simp [rel]⟩
   ·cases V
  ·cases V
 ·have hy0 : vy = .pointer none := by simpa only [rel] using hy
  subst hy0
  have key : ∀ (b : Bool), zkw dx = some b -> zrh P t = true -> ∃ a, vx = .pointer a /\ (Op.equal t vx (.pointer none)).run P w = .ok b w := by
   intro b hb ht
   obtain ⟨e, hu⟩ := zrq ht
   unfold zkw at hb
   split at hb
   ·simp only [rel] at hx; subst hx; cases hb; exact ⟨_, rfl, z79 hu none w⟩
   ·simp only [rel] at hx; obtain ⟨a, u, rfl, _⟩ := hx; cases hb; exact ⟨_, rfl, z79 hu _ w⟩
   ·simp only [rel] at hx; obtain ⟨_, ⟨a, rfl⟩, _⟩ := hx; cases hb; exact ⟨_, rfl, z79 hu _ w⟩
   ·cases hb
  split at V
  ·split at V
   ·rename_i ht
    simp only [Option.map_eq_some_iff] at V
    obtain ⟨b, hb, rfl⟩ := V
    obtain ⟨a, rfl, hrun⟩ := key b hb ht
    exact ⟨.bool b, by simp only [Sem.run_bind, zaf, Result.andThen_ok]; exact z97 hrun (by simp) (by simp) (by simp) (by simp), by simp [rel]⟩
   ·cases V
  ·split at V
   ·rename_i ht
    simp only [Option.map_eq_some_iff] at V
    obtain ⟨b, hb, rfl⟩ := V
    obtain ⟨a, rfl, hrun⟩ := key b hb ht
    exact ⟨.bool (!b), by simp only [Sem.run_bind, zaf, Result.andThen_ok]; exact z98 hrun (by simp) (by simp) (by simp) (by simp), by simp [rel]⟩
   ·cases V
  ·cases V
 ·cases V

end Go.Proofs.YtppebcifiejplaaGreatDoor.Abs
namespace Go.Proofs.YtppebcifiejplaaGreatDoor.Abs
open Go.RowKit
variable {P : Program}

theorem z68 {s : RS} {w : World} (h : RH P s w) {e : TypeId} {n m : Nat} (hn : 0 < n) {y : D} {news : List D} {v : Value} (hs : z02 P e = n)
  (V : z7w s.H e n y = some (m, news)) (hy : rel s y v) :
  (v = .slice none 0 0 /\ m = 0 /\ news = []) \/ ∃ a c vs, v = .slice (some a) m c /\ relAll s news vs /\ z5t vs /\ vs.length = m * n /\ ∀ j u, vs[j]? = some u -> w.cell? (a.add j) = some u := by
 unfold z7w at V
 split at V
 ·rename_i nn sz els
  split at V
  ·rename_i hsz
   subst hsz
   simp only [Option.map_eq_some_iff] at V
   obtain ⟨cs, hcs, heq⟩ := V
   simp only [Prod.mk.injEq] at heq
   obtain ⟨rfl, rfl⟩ := heq
   simp only [rel] at hy
   rcases hy with ⟨_, rfl, rfl⟩ | ⟨a, cap, vs, rfl, _, _, hr, hlies⟩
   ·simp only [z1h, Option.some.injEq] at hcs
    subst hcs
    exact .inl ⟨rfl, rfl, rfl⟩
   ·obtain ⟨h1, h2, h3⟩ := z8d hcs hr
    have hfl := z9t h3
    refine .inr ⟨a, cap, _, rfl, h1, h2, by rw [hfl, z06 hr], fun j u hj => ?_⟩
    have hjl : j < vs.length * sz := by
     rcases Nat.lt_or_ge j (vs.length * sz) with h9 | h9
     ·exact h9
     ·rw [List.getElem?_eq_none (by rw [hfl]; exact h9)] at hj; cases hj
    have hi : j / sz < vs.length := (Nat.div_lt_iff_lt_mul hn).2 hjl
    have hv : vs[j / sz]? = some vs[j / sz] := List.getElem?_eq_getElem hi
    obtain ⟨hsz', hc⟩ := hlies _ _ hv
    have hjm : j % sz < vs[j / sz].cells.toList.length := by simp only [Array.length_toList, hsz']; exact Nat.mod_lt _ hn
    have hc' := List.getElem?_eq_getElem hjm
    have hflat := zgx h3 _ _ _ _ hv hc'
    have hdm : j / sz * sz + j % sz = j := by rw [Nat.mul_comm]; exact Nat.div_add_mod j sz
    rw [hdm, hj] at hflat
    cases hflat
    have := hc _ _ hc'
    rw [z54, hdm] at this
    exact (h.mem _ _ this).1
  ·cases V
 ·simp only [Option.some.injEq, Prod.mk.injEq] at V
  obtain ⟨rfl, rfl⟩ := V
  simp only [rel] at hy
  exact .inl ⟨hy, rfl, rfl⟩
 ·rename_i id k
  split at V
  ·rename_i e' k' cs hid
   split at V
   ·rename_i O
    obtain ⟨rfl, rfl⟩ := O
    simp only [Option.some.injEq, Prod.mk.injEq] at V
    obtain ⟨rfl, rfl⟩ := V
    simp only [rel] at hy
    obtain ⟨_, _, hlive⟩ := hy
    have hv := (hlive _ _ _ hid).2 rfl
    subst hv
    obtain ⟨vs, ho, hr, h1, hcl, hcell⟩ := z53 h hid
    have hsz := hs
    rcases ho.2 with ⟨hv0, hn0⟩ | ⟨g, cap, cur, hv0, _⟩
    ·subst hn0
     have hx : vs = [] := List.eq_nil_of_length_eq_zero (by simpa using ho.1)
     subst hx
     have : cs = [] := List.eq_nil_of_length_eq_zero (by simpa using hcl)
     subst this
     exact .inl ⟨hv0, rfl, rfl⟩
    ·refine .inr ⟨⟨g, 0, none⟩, cap, vs, hv0, hr, h1, by rw [ho.1, hsz], fun j u hj => ?_⟩
     rw [z0z, Nat.zero_add]
     exact hcell g (by rw [hv0]; rfl) j u hj
   ·cases V
  ·cases V
 ·cases V

theorem z6i {w : World} {t ty e : TypeId} {v y : Value} {n m : Nat} {xs vs : List Value} (hu : P.underlying t = some (.slice e)) (hpos : 0 < z02 P e) (hz : z0g P e = true)
  (hown : w.ownsRow 0 e (z02 P e) v n xs) (hbytes : (n + m) * z0k P e <= 140737488355328) (h63 : n + m <= maxLen)
  (hy : (y = .slice none 0 0 /\ m = 0 /\ vs = []) \/ ∃ a c, y = .slice (some a) m c /\ z5t vs /\ vs.length = m * z02 P e /\ ∀ j u, vs[j]? = some u -> w.cell? (a.add j) = some u) :
  ∃ v' w', (Builtin.append_ #[t, t] ty #[v, y]).run P w = .ok v' w' /\ w'.ownsRow 0 e (z02 P e) v' (n + m) (xs ++ vs) /\ w.grownBy w' v.ownBlock /\
   (∀ b, blockOf v' = some b -> blockOf v = some b \/ w.heap.size <= b) /\ (m = 0 -> v' = v) := by
 obtain ⟨i, z, hi, hzz, hzs⟩ := z4v hz
 have hsz : i.size = z02 P e := by simp [z02, hi]
 have hby : i.bytes = z0k P e := by simp [z0k, hi]
 rcases hy with ⟨rfl, rfl, rfl⟩ | ⟨a, c, rfl, h1, hl, hc⟩
 ·refine ⟨v, w, ?_, by simpa using hown, ⟨rfl, rfl, rfl, Nat.le_refl _, fun _ _ _ => rfl⟩, fun b hb => .inl hb, fun _ => rfl⟩
  rcases hown.2 with ⟨rfl, rfl⟩ | ⟨g, cap, cur, rfl, _, _, hnc, _⟩
  ·simp [Builtin.append_, run_underlying hu, sizeOf, typeInfo, hi, Builtin.lenOf, Builtin.firstCells]
  ·simp [Builtin.append_, run_underlying hu, sizeOf, typeInfo, hi, Builtin.lenOf, Builtin.firstCells, hnc, storeCells]
 ·obtain ⟨v', w', hr, hown', hg, hnil⟩ := run_append_own (P := P) w 0 t ty e i z (z02 P e) (z0k P e) hu hi hzz hsz hby hzs hpos v n xs hown a m c vs hl hc h1 h63 hbytes (Nat.zero_le _)
  refine ⟨v', w', hr, hown', hg, ?_⟩
  have hsmall : n + m <= 9223372036854775807 := by simp only [maxLen] at h63; omega
  rcases hown.2 with ⟨rfl, rfl⟩ | ⟨g, cap, cur, rfl, _, hh, hnc, hcm, hcs, htake⟩
  ·by_cases hm : m = 0
   ·subst hm
    have := hnil.2 ⟨rfl, rfl⟩
    subst this
    exact ⟨fun b hb => .inl hb, fun _ => rfl⟩
   ·have hr2 := run_append_nil (P := P) w t ty e i z hu hi hzz a m c vs (by rw [hl, hsz]) hc (by omega) (by omega) (by rw [hby]; simp only [Nat.zero_add] at hbytes; omega)
    rw [hr] at hr2
    cases hr2
    refine ⟨fun b hb => .inr ?_, fun h0 => (hm h0).elim⟩
    simp only [blockOf, Option.some.injEq] at hb; omega
  ·by_cases hroom : n + m <= cap
   ·have hfit : n * z02 P e + vs.length <= cur.size := by rw [hl, hcs, <- Nat.add_mul]; exact Nat.mul_le_mul_right _ hroom
    have hr2 := run_append_room (P := P) w t ty e i hu hi g n cap cur hh a m c vs (by rw [hl, hsz]) hc h1 hroom (by rw [hsz]; exact hfit)
    rw [hr] at hr2
    cases hr2
    refine ⟨fun b hb => .inl hb, fun h0 => by subst h0; rfl⟩
   ·have holds : ∀ j u, xs[j]? = some u -> w.cell? ((⟨g, 0, none⟩ : Addr).add j) = some u := hown.cells (g := g) rfl
    have hr2 := run_append_grow (P := P) w t ty e i z hu hi hzz ⟨g, 0, none⟩ n cap xs (by rw [hown.1, hsz]) holds a m c vs (by rw [hl, hsz]) hc (by omega) (by omega) (by rw [hby]; exact growslice_fits (by omega) hbytes)
    rw [hr] at hr2
    cases hr2
    refine ⟨fun b hb => .inr ?_, fun h0 => by omega⟩
    simp only [blockOf, Option.some.injEq] at hb; omega

theorem zc8 {w : World} {b : Nat} {e : TypeId} {sz : Nat} {v : Value} {n : Nat} {xs : List Value} (h : w.ownsRow b e sz v n xs) : v.ownBlock = blockOf v := by
 rcases h.2 with ⟨rfl, _⟩ | ⟨g, cap, cur, rfl, _⟩ <;> rfl
theorem zag {w : World} {b : Nat} {e : TypeId} {sz : Nat} {v : Value} {n : Nat} {xs : List Value} (h : w.ownsRow b e sz v n xs) : ∃ a c, v = .slice a n c := by
 rcases h.2 with ⟨rfl, rfl⟩ | ⟨g, cap, cur, rfl, _⟩ <;> exact ⟨_, _, rfl⟩

theorem zc9 {s : RS} {w : World} (h : RH P s w) {t ty : TypeId} {x y d : D} {vx vy : Value} {H : HM} {nx : Nat} (V : z63 P s.H s.nx t x y = some (d, H, nx)) (hx : rel s x vx) (hy : rel s y vy) :
  ∃ v s' w', (Builtin.append_ #[t, t] ty #[vx, vy]).run P w = .ok v w' /\ Step s w s' w' /\ RH P s' w' /\ s'.H = H /\ s'.nx = nx /\ rel s' d v := by
 unfold z63 at V
 cases he : z0x P t with
 | none => rw [he] at V; cases V
 | some e =>
  rw [he] at V
  have hu := z2d he
  simp only at V
  split at V
  ·rename_i hc
   obtain ⟨hpos, hz⟩ := hc
   simp only [Option.bind_eq_some_iff] at V
   obtain ⟨⟨m, news⟩, hsrc, V⟩ := V
   have hs := z68 h hpos rfl hsrc hy
   obtain ⟨us, hrel, hsv⟩ : ∃ us : List Value, relAll s news us /\ z5t us /\ ((vy = .slice none 0 0 /\ m = 0 /\ us = []) \/ ∃ a c, vy = .slice (some a) m c /\ z5t us /\ us.length = m * z02 P e /\ ∀ j u, us[j]? = some u -> w.cell? (a.add j) = some u) := by
    rcases hs with ⟨h1, h2, h3⟩ | ⟨a, c, us, h1, h2, h3, h4, h5⟩
    ·exact ⟨[], by rw [h3]; exact z0q, zhx, .inl ⟨h1, h2, rfl⟩⟩
    ·exact ⟨us, h2, h3, .inr ⟨a, c, h1, h3, h4, h5⟩⟩
   obtain ⟨ho1, hsv⟩ := hsv
   simp only at V
   split at V
   ·split at V
    ·rename_i hb
     simp only [Option.some.injEq, Prod.mk.injEq] at V
     obtain ⟨rfl, rfl, rfl⟩ := V
     simp only [rel] at hx; subst hx
     obtain ⟨v', w', hr, hown, hg, hbl, _⟩ := z6i (ty := ty) hu hpos hz (World.ownsRow_nil w 0 e (z02 P e)) (by simpa using hb.1) (by simpa using hb.2) hsv
     simp only [Nat.zero_add, List.nil_append] at hown
     have hgrew : Grew w w' := ⟨hg.os, hg.tape, hg.output, hg.size, fun k O => hg.block k O (by simp [Value.ownBlock])⟩
     have hl := z90 h v' (.row e m news)
     obtain ⟨h1, h2⟩ := z5b h hgrew (.row e m news) v' (fun b hb' => by
      rcases hbl b hb' with h3 | h3
      ·cases h3
      ·exact h3) ⟨us, hown, relAll.later hl _ _ hrel, ho1⟩
     refine ⟨v', _, w', hr, h1, h2, rfl, rfl, ?_⟩
     simp only [rel]
     obtain ⟨a, c, hvs⟩ := zag hown
     refine ⟨by simp [RS.add], ⟨a, c, hvs⟩, fun e' k cs hH => ?_⟩
     simp only [RS.add, z1f, if_true, Option.some.injEq, HObj.row.injEq] at hH
     obtain ⟨_, rfl, _⟩ := hH
     exact ⟨Nat.le_refl _, fun _ => by simp [RS.add]⟩
    ·cases V
   ·rename_i id n
    cases hid : s.H id with
    | none => rw [hid] at V; cases V
    | some o =>
     rw [hid] at V
     cases o <;> first | (cases V; done) | skip
     rename_i e' k cs
     simp only at V
     split at V
     ·rename_i hb
      obtain ⟨rfl, rfl, hb1, hb2⟩ := hb
      simp only [Option.some.injEq, Prod.mk.injEq] at V
      obtain ⟨rfl, rfl, rfl⟩ := V
      simp only [rel] at hx
      obtain ⟨hidn, _, hlive⟩ := hx
      have hv := (hlive _ _ _ hid).2 rfl
      subst hv
      obtain ⟨vs, ho, hrv, hov, _, _⟩ := z53 h hid
      obtain ⟨v', w', hr, hown, hg, hbl, hm0⟩ := z6i (ty := ty) hu hpos hz ho hb1 hb2 hsv
      obtain ⟨h1, h2⟩ := zab (w' := w') h id (.row e' n cs) (.row e' (n + m) (cs ++ news)) v' hid hg.os hg.tape hg.output hg.size
       (fun k O hne => hg.block k O (by rw [zc8 ho]; exact hne))
       (.inr ⟨n + m, cs ++ news, rfl, Nat.le_add_right _ _, fun hnm => hm0 (by omega)⟩)
       (fun b hb => hbl b hb)
       (fun hl => ⟨vs ++ us, hown, relAll.later hl _ _ (z1n hrv hrel), z3y hov ho1⟩)
      refine ⟨v', _, w', hr, h1, h2, rfl, rfl, ?_⟩
      simp only [rel]
      obtain ⟨a, c, hvs⟩ := zag hown
      refine ⟨hidn, ⟨a, c, hvs⟩, fun e2 k2 cs2 hH => ?_⟩
      simp only [RS.set, z1f, if_true, Option.some.injEq, HObj.row.injEq] at hH
      obtain ⟨_, rfl, _⟩ := hH
      exact ⟨Nat.le_refl _, fun _ => by simp [RS.set]⟩
     ·cases V
   ·-- a slice without room behind it
    rename_i sz els
    obtain ⟨i, z, hi, hzz, hzs⟩ := z4v hz
    have hsz : i.size = z02 P e := by simp [z02, hi]
    have hby : i.bytes = z0k P e := by simp [z0k, hi]
    have hx0 := hx
    simp only [rel] at hx0
    split at V
    ·rename_i hm0
     subst hm0
     simp only [Option.some.injEq, Prod.mk.injEq] at V
     obtain ⟨rfl, rfl, rfl⟩ := V
     have hus : us = [] := by
      rcases hsv with ⟨_, _, h3⟩ | ⟨a, c, _, _, h3, _⟩
      ·exact h3
      ·exact List.eq_nil_of_length_eq_zero (by simpa using h3)
     subst hus
     refine ⟨vx, s, w, ?_, Step.refl s w, h, rfl, rfl, hx⟩
     rcases hx0 with ⟨_, rfl⟩ | ⟨a0, vs0, rfl, hmx, _, _⟩
     ·rcases hsv with ⟨rfl, _, _⟩ | ⟨a, c, rfl, _, _, hc⟩
      ·simp [Builtin.append_, run_underlying hu, sizeOf, typeInfo, hi, Builtin.lenOf, Builtin.firstCells]
      ·have hf := run_firstCells_some (P := P) w i.size 0 a 0 c [] (by simp) (by simp)
       simp [Builtin.append_, run_underlying hu, sizeOf, typeInfo, hi, Builtin.lenOf, hf]
     ·rcases hsv with ⟨rfl, _, _⟩ | ⟨a, c, rfl, _, _, hc⟩
      ·simp [Builtin.append_, run_underlying hu, sizeOf, typeInfo, hi, Builtin.lenOf, Builtin.firstCells, storeCells]
      ·have hf := run_firstCells_some (P := P) w i.size 0 a 0 c [] (by simp) (by simp)
       simp [Builtin.append_, run_underlying hu, sizeOf, typeInfo, hi, Builtin.lenOf, hf, storeCells]
    ·rename_i hm0
     split at V
     ·rename_i hc3
      obtain ⟨rfl, F, hb4⟩ := hc3
      simp only [Option.map_eq_some_iff] at V
      obtain ⟨cs, hcs, V⟩ := V
      simp only [Prod.mk.injEq] at V
      obtain ⟨rfl, rfl, rfl⟩ := V
      have fin : ∀ (v' : Value) (w' : World) (all : List Value), (Builtin.append_ #[t, t] ty #[vx, vy]).run P w = .ok v' w' -> Grew w w' -> w'.ownsRow 0 e (z02 P e) v' (els.length + m) all -> relAll s (cs ++ news) all -> z5t all -> (∀ b, blockOf v' = some b -> w.heap.size <= b) ->
        ∃ v s' w', (Builtin.append_ #[t, t] ty #[vx, vy]).run P w = .ok v w' /\ Step s w s' w' /\ RH P s' w' /\ s'.H = z1f s.H s.nx (some (.row e (els.length + m) (cs ++ news))) /\ s'.nx = s.nx + 1 /\ rel s' (.osl s.nx (els.length + m)) v := by
       intro v' w' all hr hgrew hown hall hone hbl
       have hl := z90 h v' (.row e (els.length + m) (cs ++ news))
       obtain ⟨h1, h2⟩ := z5b h hgrew (.row e (els.length + m) (cs ++ news)) v' hbl ⟨all, hown, relAll.later hl _ _ hall, hone⟩
       refine ⟨v', _, w', hr, h1, h2, rfl, rfl, ?_⟩
       simp only [rel]
       obtain ⟨a, c, hvs⟩ := zag hown
       refine ⟨by simp [RS.add], ⟨a, c, hvs⟩, fun e' k cs hH => ?_⟩
       simp only [RS.add, z1f, if_true, Option.some.injEq, HObj.row.injEq] at hH
       obtain ⟨_, rfl, _⟩ := hH
       exact ⟨Nat.le_refl _, fun _ => by simp [RS.add]⟩
      rcases hx0 with ⟨rfl, rfl⟩ | ⟨a0, vs0, hv0, hmx, hrv0, hlv0⟩
      ·simp only [z1h, Option.some.injEq] at hcs
       subst hcs
       obtain ⟨v', w', hr, hown, hg, hbl, _⟩ := z6i (ty := ty) hu hpos hz (World.ownsRow_nil w 0 e (z02 P e)) (by simpa using F) (by simpa using hb4) hsv
       simp only [Nat.zero_add, List.nil_append] at hown
       refine fin v' w' us hr ⟨hg.os, hg.tape, hg.output, hg.size, fun k O => hg.block k O (by simp [Value.ownBlock])⟩ (by simpa using hown) (by simpa using hrel) ho1 (fun b hb' => by
        rcases hbl b hb' with h3 | h3
        ·cases h3
        ·exact h3)
      ·have hx1 : rel s (.rsl true (z02 P e) els) vx := by
        simp only [rel]
        exact .inr ⟨a0, els.length, vs0, hv0, Nat.le_refl _, hmx, hrv0, hlv0⟩
       have hsrc2 : z7w s.H e (z02 P e) (.rsl true (z02 P e) els) = some (els.length, cs) := by simp [z7w, hcs]
       rcases z68 h hpos rfl hsrc2 hx1 with ⟨rfl, _, _⟩ | ⟨b, c2, olds, hvb, hro, h1o, hlo, hcello⟩
       ·cases hv0
       ·have hc2 : c2 = els.length /\ b = a0 := by rw [hv0] at hvb; cases hvb; exact ⟨rfl, rfl⟩
        obtain ⟨rfl, rfl⟩ := hc2
        subst hv0
        rcases hsv with ⟨rfl, h0, _⟩ | ⟨a, c, rfl, h1, hl, hcell⟩
        ·exact (hm0 h0).elim
        ·have hrun := run_append_grow (P := P) w t ty e i z hu hi hzz b els.length els.length olds (by rw [hlo, hsz]) hcello a m c us (by rw [hl, hsz]) hcell (by omega) (by simp only [maxLen] at hb4; omega) (by rw [hby]; exact growslice_fits (by omega) (by simpa using F))
         have hgrew : Grew w (w.drew.alloc (.cells (olds.toArray ++ us.toArray ++ Builtin.zeroCells z.cells (grownCap w (els.length + m) els.length e - (els.length + m))) e)) := Grew.of_drew (Grew.alloc _ _)
         have hcap := grownCap_ge w (els.length + m) els.length e
         have hol : (olds ++ us).length = (els.length + m) * z02 P e := by rw [List.length_append, hlo, hl, Nat.add_mul]
         refine fin _ _ (olds ++ us) hrun hgrew ⟨hol, .inr ⟨w.heap.size, _, _, rfl, Nat.zero_le _, heap_alloc_new w.drew _, hcap, grownCap_le_maxLen w (els.length + m) els.length e hb4, ?_, ?_⟩⟩ (z1n hro hrel) (z3y h1o ho1) (fun b2 hb2 => by simp only [blockOf, Option.some.injEq] at hb2; omega)
         ·have hzl : (Builtin.zeroCells z.cells (grownCap w (els.length + m) els.length e - (els.length + m))).size = (grownCap w (els.length + m) els.length e - (els.length + m)) * z02 P e := by
           simp [Builtin.zeroCells, hzs]
          rw [List.length_append] at hol
          simp only [Array.size_append, List.size_toArray, hzl]
          rw [hol, <- Nat.add_mul]
          congr 1
          omega
         ·simp only [Array.toList_append, List.append_assoc]
          rw [<- List.append_assoc, List.take_append_of_le_length (by rw [hol]; exact Nat.le_refl _), List.take_of_length_le (by rw [hol]; exact Nat.le_refl _)]
     ·cases V
   ·cases V
  ·cases V

theorem z8e {α : Type} (l : List α) : ∀ (k i : Nat), (List.replicate k l).flatten[i]? = if i < k * l.length then l[i % l.length]? else none
 | 0, i => by simp
 | k + 1, i => by
  simp only [List.replicate_succ, List.flatten_cons, List.getElem?_append]
  by_cases h : i < l.length
  ·rw [if_pos h, if_pos (by rw [Nat.add_mul]; omega), Nat.mod_eq_of_lt h]
  ·rw [if_neg h, z8e l k (i - l.length)]
   by_cases h2 : i < (k + 1) * l.length
   ·have h3 : i - l.length < k * l.length := by rw [Nat.add_mul] at h2; omega
    rw [if_pos h3, if_pos h2, <- Nat.mod_eq_sub_mod (by omega)]
   ·have h3 : ¬ i - l.length < k * l.length := by rw [Nat.add_mul] at h2; omega
    rw [if_neg h3, if_neg h2]
theorem zct (z : Array Value) (k : Nat) : (madeCells z (k * z.size)).toList = (List.replicate k z.toList).flatten := by
  apply List.ext_getElem?
  intro i
  rw [z8e]
  simp only [madeCells, Array.toList_map, Array.toList_range, List.getElem?_map, Array.length_toList]
  by_cases h : i < k * z.size
  · have hz : 0 < z.size := by rcases Nat.eq_zero_or_pos z.size with h0 | h0; · rw [h0] at h; simp at h
                               · exact h0
    have hm := Nat.mod_lt i hz
    simp [h, hm]
  · simp [h]

theorem zfy {s : RS} {zs : List D} {vs : List Value} (h : relAll s zs vs) : ∀ k, relAll s (List.replicate k zs).flatten (List.replicate k vs).flatten
 | 0 => by simp [relAll]
 | k + 1 => by simp only [List.replicate_succ, List.flatten_cons]; exact z1n h (zfy h k)
theorem zmo {vs : List Value} (h : z5t vs) : ∀ k, z5t (List.replicate k vs).flatten
 | 0 => by simp [z5t]
 | k + 1 => by simp only [List.replicate_succ, List.flatten_cons]; exact z3y h (zmo h k)

theorem zob {s : RS} {w : World} (h : RH P s w) {t e : TypeId} {kl kc : IntKind} {l : Int} {zs : List D} (he : z0x P t = some e) (hz : z17 P e = some zs)
  (h0 : 0 <= l) (hb : l.toNat * z0k P e <= 140737488355328) (h63 : l <= 9223372036854775807) (_hpos : 0 < z02 P e) :
  ∃ v s' w', (Instr.makeSlice t (.int kl l) (.int kc l)).run P w = .ok v w' /\ Step s w s' w' /\ RH P s' w' /\ s'.H = z1f s.H s.nx (some (.row e l.toNat (List.replicate l.toNat zs).flatten)) /\ s'.nx = s.nx + 1 /\ rel s' (.osl s.nx l.toNat) v := by
 have hu := z2d he
 unfold z17 at hz
 simp only [Option.bind_eq_some_iff] at hz
 obtain ⟨z, ⟨i, hi, hzz⟩, hz⟩ := hz
 split at hz
 ·rename_i hc
  obtain ⟨hc1, hc2⟩ := hc
  cases hz
  have hsz : i.size = z02 P e := by simp [z02, hi]
  have hby : i.bytes = z0k P e := by simp [z0k, hi]
  have hbi : (i.bytes : Int) * l <= 281474976710656 := by
   have e1 : (i.bytes : Int) * l = ((l.toNat * z0k P e : Nat) : Int) := by
    rw [hby, Int.natCast_mul, Int.toNat_of_nonneg h0, Int.mul_comm]
   rw [e1]; omega
  have hr := run_make (P := P) w t e i z hu hi hzz kl kc l l h0 (Int.le_refl _) hbi h63
  have hz1 : z5t z.cells.toList := fun u hu => by simpa using List.all_eq_true.1 hc2 u hu
  have hcells : madeCells z.cells (l.toNat * i.size) = (List.replicate l.toNat z.cells.toList).flatten.toArray := by
   apply Array.ext'
   rw [hsz, <- hc1, zct]
  rw [hcells] at hr
  have hlen : (List.replicate l.toNat z.cells.toList).flatten.length = l.toNat * z02 P e := by
   simp [hc1]
  obtain ⟨h1, h2⟩ := z5b h (Grew.alloc w (.cells (List.replicate l.toNat z.cells.toList).flatten.toArray e)) (.row e l.toNat (List.replicate l.toNat (z.cells.toList.map zcq)).flatten)
   (.slice (some ⟨w.heap.size, 0, none⟩) l.toNat l.toNat) (fun b hb' => by simp only [blockOf, Option.some.injEq] at hb'; omega)
   ⟨(List.replicate l.toNat z.cells.toList).flatten, ⟨hlen, .inr ⟨w.heap.size, l.toNat, _, rfl, Nat.zero_le _, heap_alloc_new w _, Nat.le_refl _, by simp only [maxLen]; omega, by simpa using hlen, by
    rw [List.take_of_length_le (by rw [hlen]; exact Nat.le_refl _)]⟩⟩, zfy (z9s _ _) _, zmo hz1 _⟩
  refine ⟨_, _, _, hr, h1, h2, rfl, rfl, ?_⟩
  simp only [rel]
  refine ⟨by simp [RS.add], ⟨_, _, rfl⟩, fun e' k cs hH => ?_⟩
  simp only [RS.add, z1f, if_true, Option.some.injEq, HObj.row.injEq] at hH
  obtain ⟨_, rfl, _⟩ := hH
  exact ⟨Nat.le_refl _, fun _ => by simp [RS.add]⟩
 ·cases hz

end Go.Proofs.YtppebcifiejplaaGreatDoor.Abs
namespace Go.Proofs.YtppebcifiejplaaGreatDoor.Abs
open Go.RowKit
variable {P : Program}

mutual
theorem z1r {s s' : RS} (hm : ∀ a v, s.m a = some v -> s'.m a = some v) : ∀ (d : D) (v : Value), pureD d = true -> rel s d v -> rel s' d v
 | .any, _, _, _ => by simp [rel]
 | .int k n, v, _, hr => by simpa [rel] using hr
 | .bool b, v, _, hr => by simpa [rel] using hr
 | .str x, v, _, hr => by simpa [rel] using hr
 | .agg ds, v, hp, hr => by
  simp only [pureD] at hp
  simp only [rel] at hr ⊢
  obtain ⟨vs, h1, h2, h3⟩ := hr
  exact ⟨vs, h1, z1i hm ds vs hp h2, h3⟩
 | .tup ds, v, hp, hr => by
  simp only [pureD] at hp
  simp only [rel] at hr ⊢
  obtain ⟨vs, h1, h2⟩ := hr
  exact ⟨vs, h1, z1i hm ds vs hp h2⟩
 | .nil, v, _, hr => by simpa [rel] using hr
 | .rsl nn sz els, v, hp, hr => by
  simp only [pureD] at hp
  simp only [rel] at hr ⊢
  rcases hr with hr | ⟨a, cap, vs, h1, h2, h3, h4, h5⟩
  ·exact .inl hr
  ·exact .inr ⟨a, cap, vs, h1, h2, h3, z1i hm els vs hp h4, fun i u hu => ⟨(h5 i u hu).1, (h5 i u hu).2.later hm⟩⟩
 | .nptr, v, _, hr => by simpa [rel] using hr
 | .rptr d, v, hp, hr => by
  simp only [pureD] at hp
  simp only [rel] at hr ⊢
  obtain ⟨a, u, h1, h2, h3⟩ := hr
  exact ⟨a, u, h1, z1r hm d u hp h2, h3.later hm⟩
 | .nfun, v, _, hr => by simpa [rel] using hr
 | .fn f cap, v, hp, hr => by
  simp only [pureD] at hp
  simp only [rel] at hr ⊢
  obtain ⟨vs, h1, h2⟩ := hr
  exact ⟨vs, h1, z1i hm cap vs hp h2⟩
 | .bfn f first, v, hp, hr => by
  simp only [pureD] at hp
  simp only [rel] at hr ⊢
  obtain ⟨vs, h1, h2⟩ := hr
  exact ⟨vs, h1, z1i hm first vs hp h2⟩
 | .osl .., _, hp, _ => by cases hp
 | .ptr .., _, hp, _ => by cases hp
 | .eptr .., _, hp, _ => by cases hp
 | .mp _, _, hp, _ => by cases hp
 | .it _, _, hp, _ => by cases hp
 | .nmp, v, _, hr => by simpa [rel] using hr
 | .e0, v, _, hr => by simpa [rel] using hr
 | .fsl sz els, v, hp, hr => by
  simp only [pureD] at hp
  simp only [rel] at hr ⊢
  rcases hr with hr | ⟨a, vs, h1, h3, h4, h5⟩
  ·exact .inl hr
  exact .inr ⟨a, vs, h1, h3, z1i hm els vs hp h4, fun i u hu => ⟨(h5 i u hu).1, (h5 i u hu).2.later hm⟩⟩
theorem z1i {s s' : RS} (hm : ∀ a v, s.m a = some v -> s'.m a = some v) : ∀ (ds : List D) (vs : List Value), pureD.pureL ds = true -> relAll s ds vs -> relAll s' ds vs
 | [], vs, _, hr => by simpa [relAll] using hr
 | d :: ds, vs, hp, hr => by
  simp only [pureD.pureL, Bool.and_eq_true] at hp
  simp only [relAll] at hr ⊢
  obtain ⟨v, r, h1, h2, h3⟩ := hr
  exact ⟨v, r, h1, z1r hm d v hp.1 h2, z1i hm ds r hp.2 h3⟩
end
def zca (ag : Bool) (sz : Nat) : Nat -> List Value -> List Value
 | 0, _ => []
 | n + 1, cs => (if ag = true then .agg (cs.take sz).toArray else (cs[0]?).getD undef) :: zca ag sz n (cs.drop sz)

theorem z2y (ag : Bool) (sz : Nat) : ∀ (n : Nat) (vs : List Value), (zca ag sz n vs).length = n
 | 0, _ => rfl
 | n + 1, vs => by simp [zca, z2y ag sz n]
theorem z99 (ag : Bool) (sz : Nat) : ∀ (n : Nat) (vs : List Value) (i : Nat), i < n -> (zca ag sz n vs)[i]? = some (if ag = true then .agg ((vs.drop (i * sz)).take sz).toArray else (vs[i * sz]?).getD undef)
 | 0, _, i, h => by omega
 | n + 1, vs, 0, _ => by simp [zca]
 | n + 1, vs, i + 1, h => by
  simp only [zca, List.getElem?_cons_succ]
  rw [z99 ag sz n _ i (by omega)]
  have : sz + i * sz = (i + 1) * sz := by rw [Nat.add_mul]; omega
  simp only [List.drop_drop, List.getElem?_drop, this]
theorem z69 {s : RS} {ag : Bool} {sz : Nat} (hsz : ag = true \/ (ag = false /\ sz = 1)) : ∀ (n : Nat) (cs : List D) (vs : List Value), cs.length = n * sz -> relAll s cs vs -> z5t vs -> relAll s (z1m ag sz n cs) (zca ag sz n vs)
 | 0, _, _, _, _, _ => z0q
 | n + 1, cs, vs, hl, hr, h1 => by
  simp only [z1m, zca]
  have hl' : (cs.drop sz).length = n * sz := by simp [hl, Nat.add_mul]
  refine z0m ?_ (z69 hsz n _ _ hl' (z7v sz hr) (zfa h1 _))
  rcases hsz with rfl | ⟨rfl, rfl⟩
  ·simp only [if_true, rel]
   exact ⟨_, rfl, z62 sz hr, zf9 h1 _⟩
  ·simp only [Bool.false_eq_true, if_false]
   cases cs with
   | nil => simp at hl
   | cons c cs =>
    simp only [relAll] at hr
    obtain ⟨v, r, rfl, h2, _⟩ := hr
    simpa using h2


theorem zmp {e : TypeId} (h : zky P e = true) : z04 P e = true \/ (z04 P e = false /\ z02 P e = 1) := by
 unfold zky at h
 simp only [Bool.or_eq_true, Bool.and_eq_true, Bool.not_eq_true', beq_iff_eq] at h
 exact h

noncomputable def RS.shut1 (s : RS) (w : World) (id : Nat) : RS :=
 {s with m := fun a => @ite _ (blockOf (s.κ id) = some a.block) (Classical.propDecidable _) (w.cell? a) (s.m a), H := z1f s.H id none }
theorem z7a {s : RS} {w : World} (h : RH P s w) {id : Nat} (hid : s.H id ≠ none) : Step s w (s.shut1 w id) w /\ RH P (s.shut1 w id) w := by
 have hlt := h.fresh hid
 have hown : ∀ a : Addr, blockOf (s.κ id) = some a.block -> owned s a.block := fun a hb => ⟨id, hlt, hid, hb⟩
 have hmem : ∀ a v, s.m a = some v -> (s.shut1 w id).m a = some v := by
  intro a v hm
  simp only [RS.shut1]
  rw [if_neg (fun hb => (h.mem a v hm).2 (hown a hb))]; exact hm
 have hHo : ∀ j, (s.shut1 w id).H j ≠ none -> j ≠ id /\ (s.shut1 w id).H j = s.H j := by
  intro j hj
  simp only [RS.shut1, z1f] at hj ⊢
  by_cases hji : j = id
  ·rw [if_pos hji] at hj; exact (hj rfl).elim
  ·exact ⟨hji, if_neg hji⟩
 have hownL : ∀ k, owned (s.shut1 w id) k -> owned s k := by
  rintro k ⟨j, hj, hH, hb⟩
  obtain ⟨_, e⟩ := hHo j hH
  exact ⟨j, hj, by rw [<- e]; exact hH, hb⟩
 have hlater : Later s (s.shut1 w id) := by
  refine ⟨Nat.le_refl _, hmem, fun j _ => ?_⟩
  simp only [RS.shut1, z1f]
  by_cases hji : j = id
  ·subst hji
   rw [if_pos rfl]
   unfold objLe
   cases s.H j with
   | none => rfl
   | some o => cases o <;> exact .inl rfl
  ·rw [if_neg hji]; exact objLe.refl _ _
 refine ⟨⟨rfl, rfl, rfl, Nat.le_refl _, Nat.le_refl _, hmem, fun a v hm => ?_, hlater.objs, fun _ _ _ => rfl, fun k ho => .inl (hownL k ho)⟩, ?_, ?_, ?_, fun g => rel.later hlater _ _ (h.glob g)⟩
 ·simp only [RS.shut1] at hm
  by_cases hb : blockOf (s.κ id) = some a.block
  ·exact .inr (.inr (hown a hb))
  ·rw [if_neg hb] at hm; exact .inl hm
 ·intro a v hm
  simp only [RS.shut1] at hm
  by_cases hb : blockOf (s.κ id) = some a.block
  ·rw [if_pos hb] at hm
   refine ⟨hm, ?_⟩
   rintro ⟨j, hj, hH, hbj⟩
   obtain ⟨hji, e⟩ := hHo j hH
   rw [e] at hH
   have hbj' : blockOf (s.κ j) = some a.block := hbj
   exact h.apart j id hH hid hji (by rw [hbj']; simp) (by rw [hbj', hb])
  ·rw [if_neg hb] at hm
   exact ⟨(h.mem a v hm).1, fun ho => (h.mem a v hm).2 (hownL _ ho)⟩
 ·intro j o ho
  obtain ⟨hji, e⟩ := hHo j (by rw [ho]; simp)
  rw [e] at ho
  obtain ⟨h1, h2⟩ := h.obj j o ho
  exact ⟨h1, h2.mono hlater fun b hb' => rfl⟩
 ·intro i j hi hj hij hbi
  obtain ⟨_, e1⟩ := hHo i hi
  obtain ⟨_, e2⟩ := hHo j hj
  rw [e1] at hi; rw [e2] at hj
  exact h.apart i j hi hj hij hbi

theorem z9u {s : RS} {w : World} (h : RH P s w) {d d' : D} {v : Value} {H H' : HM} {nx nx' : Nat} (hH : s.H = H) (hn : s.nx = nx) (hr : rel s d v) (hs : zc6 P (d, H, nx) = some (d', H', nx')) :
  ∃ s', Step s w s' w /\ RH P s' w /\ s'.H = H' /\ s'.nx = nx' /\ rel s' d' v /\ ∀ id n, d = .osl id n -> s' = s.shut1 w id := by
 subst hH; subst hn
 unfold zc6 at hs
 split at hs
 ·rename_i x id n H0 nx0 heq
  cases heq
  split at hs
  ·rename_i e k cs hid
   split at hs
   ·rename_i hc
    obtain ⟨rfl, ho, hp⟩ := hc
    have hsz := zmp ho
    simp only [Option.some.injEq, Prod.mk.injEq] at hs
    obtain ⟨rfl, rfl, rfl⟩ := hs
    obtain ⟨g1, g2⟩ := z7a h (id := id) (by rw [hid]; simp)
    refine ⟨s.shut1 w id, g1, g2, rfl, rfl, ?_, fun _ _ h => by cases h; rfl⟩
    obtain ⟨vs, hown, hrv, hov, hcl, hcell⟩ := z53 h hid
    simp only [rel] at hr
    obtain ⟨hidn, _, hlive⟩ := hr
    have hv := (hlive _ _ _ hid).2 rfl
    subst hv
    have hr' := z1i g1.mem cs vs hp hrv
    have hg := z69 hsz n cs vs hcl hr' hov
    have hgl : (z1m (z04 P e) (z02 P e) n cs).length = n := by rw [<- z06 hg]; exact z2y _ _ _ _
    simp only [rel]
    rcases hown.2 with ⟨hv0, hn0⟩ | ⟨g, cap, cur, hv0, _, hh, hnc, hcm, _⟩
    ·subst hn0
     exact .inl ⟨trivial, by rw [z1m], hv0⟩
    ·refine .inr ⟨⟨g, 0, none⟩, cap, _, by rw [hgl]; exact hv0, by rw [hgl]; exact hnc, hcm, hg, fun i u hu => ?_⟩
     have hi : i < n := by
      rcases Nat.lt_or_ge i n with h9 | h9
      ·exact h9
      ·rw [List.getElem?_eq_none (by rw [z2y]; exact h9)] at hu; cases hu
     rw [z99 _ _ _ _ _ hi] at hu
     simp only [Option.some.injEq] at hu
     subst hu
     have hvl : vs.length = n * z02 P e := by rw [z06 hrv]; exact hcl
     have hmul : i * z02 P e + z02 P e <= n * z02 P e := by
      have := Nat.mul_le_mul_right (z02 P e) (show i + 1 <= n by omega)
      rw [Nat.add_mul] at this; omega
     have cellm : ∀ j c, vs[j]? = some c -> (s.shut1 w id).m ⟨g, j, none⟩ = some c := by
      intro j c hj
      simp only [RS.shut1]
      rw [if_pos (by rw [hv0]; rfl)]
      exact hcell g (by rw [hv0]; rfl) j c hj
     rcases hsz with hag | ⟨hag, h1⟩
     ·rw [if_pos hag]
      refine ⟨by simp [Value.cells]; omega, fun j c hj => ?_⟩
      rw [z0z, z0z, Nat.zero_add]
      simp only [Value.cells, List.getElem?_take, List.getElem?_drop] at hj
      split at hj
      ·exact cellm _ _ hj
      ·cases hj
     ·rw [if_neg (by rw [hag]; simp)]
      rw [h1] at hmul hvl ⊢
      simp only [Nat.mul_one] at hmul hvl ⊢
      have hget : vs[i]? = some vs[i] := List.getElem?_eq_getElem (by omega)
      have h1u : (vs[i]).oneCell' = true := hov _ (List.getElem_mem _)
      rw [hget]
      simp only [Option.getD_some]
      rw [z21 h1u]
      refine ⟨rfl, fun j c hj => ?_⟩
      cases j with
      | zero =>
       simp at hj; subst hj
       rw [z0z, z0z, Nat.zero_add]
       exact cellm _ _ hget
      | succ j => simp at hj
   ·cases hs
  ·cases hs
 ·rename_i heq
  cases heq
  simp only [Option.some.injEq, Prod.mk.injEq] at hs
  obtain ⟨rfl, rfl, rfl⟩ := hs
  refine ⟨s, Step.refl s w, h, rfl, rfl, ?_, fun _ _ h => by cases h⟩
  simp only [rel] at hr ⊢
  rcases hr with ⟨h1, h2⟩ | ⟨a, vs, h1, h2, h3, h4⟩
  ·exact .inl ⟨trivial, h1, h2⟩
  ·exact .inr ⟨a, _, vs, h1, Nat.le_refl _, h2, h3, h4⟩
 ·cases hs

theorem zoc (a b : List D) : pureD.pureL (a ++ b) = (pureD.pureL a && pureD.pureL b) := by
 induction a with
 | nil => rfl
 | cons x a ih => simp only [List.cons_append, pureD.pureL, ih, Bool.and_assoc]
theorem zgz {s : RS} {w w' : World} {e : TypeId} {m cap : Nat} {news : List D} {us : List Value} (h : RH P s w) (hg : Grew w w') (ho : zky P e = true) (hlen : us.length = m * z02 P e)
  (hr : relAll s news us) (hp : pureD.pureL news = true) (h1 : z5t us) (hm : m <= cap) (hc : cap <= maxLen)
  (hcell : ∀ j u, us[j]? = some u -> w'.cell? ⟨w.heap.size, j, none⟩ = some u) (nn : Bool) :
  rel (s.grow w w') (.rsl nn (z02 P e) (z1m (z04 P e) (z02 P e) m news)) (.slice (some ⟨w.heap.size, 0, none⟩) m cap) := by
 have hsz := zmp ho
 obtain ⟨g1, _⟩ := z91 h hg
 have hr' := z1i g1.mem news us hp hr
 have hnl : news.length = m * z02 P e := by rw [<- z06 hr]; exact hlen
 have hgv := z69 hsz m news us hnl hr' h1
 have hgl : (z1m (z04 P e) (z02 P e) m news).length = m := by rw [<- z06 hgv]; exact z2y _ _ _ _
 simp only [rel]
 refine .inr ⟨⟨w.heap.size, 0, none⟩, cap, _, by rw [hgl], by rw [hgl]; exact hm, hc, hgv, fun i u hu => ?_⟩
 have hi : i < m := by
  rcases Nat.lt_or_ge i m with h9 | h9
  ·exact h9
  ·rw [List.getElem?_eq_none (by rw [z2y]; exact h9)] at hu; cases hu
 rw [z99 _ _ _ _ _ hi] at hu
 simp only [Option.some.injEq] at hu
 subst hu
 have hmul : i * z02 P e + z02 P e <= m * z02 P e := by
  have := Nat.mul_le_mul_right (z02 P e) (show i + 1 <= m by omega)
  rw [Nat.add_mul] at this; omega
 have cellm : ∀ j c, us[j]? = some c -> (s.grow w w').m ⟨w.heap.size, j, none⟩ = some c := by
  intro j c hj
  simp only [RS.grow]
  rw [if_neg (by simp)]
  exact hcell j c hj
 rcases hsz with hag | ⟨hag, hone⟩
 ·rw [if_pos hag]
  refine ⟨by simp [Value.cells]; omega, fun j c hj => ?_⟩
  rw [z0z, z0z, Nat.zero_add]
  simp only [Value.cells, List.getElem?_take, List.getElem?_drop] at hj
  split at hj
  ·exact cellm _ _ hj
  ·cases hj
 ·rw [if_neg (by rw [hag]; simp)]
  rw [hone] at hmul hlen ⊢
  simp only [Nat.mul_one] at hmul hlen ⊢
  have hget : us[i]? = some us[i] := List.getElem?_eq_getElem (by omega)
  have h1u : (us[i]).oneCell' = true := h1 _ (List.getElem_mem _)
  rw [hget]
  simp only [Option.getD_some]
  rw [z21 h1u]
  refine ⟨rfl, fun j c hj => ?_⟩
  cases j with
  | zero =>
   simp at hj; subst hj
   rw [z0z, z0z, Nat.zero_add]
   exact cellm _ _ hget
  | succ j => simp at hj

theorem zh0 {s : RS} {w : World} (h : RH P s w) {t ty : TypeId} {x y d : D} {vx vy : Value} (V : zf4 P s.H t x y = some d) (hx : rel s x vx) (hy : rel s y vy) :
  ∃ v s' w', (Builtin.append_ #[t, t] ty #[vx, vy]).run P w = .ok v w' /\ Step s w s' w' /\ RH P s' w' /\ s'.H = s.H /\ s'.nx = s.nx /\ rel s' d v := by
 unfold zf4 at V
 cases he : z0x P t with
 | none => rw [he] at V; cases V
 | some e =>
  rw [he] at V
  have hu := z2d he
  simp only at V
  split at V
  ·rename_i hc
   obtain ⟨hpos, hz, hone⟩ := hc
   simp only [Option.bind_eq_some_iff] at V
   obtain ⟨⟨m, news⟩, hsrc, V⟩ := V
   simp only at V
   split at V
   ·rename_i hb
    obtain ⟨hb1, hb2, hp⟩ := hb
    have hs := z68 h hpos rfl hsrc hy
    obtain ⟨i, z, hi, hzz, hzs⟩ := z4v hz
    have hsz : i.size = z02 P e := by simp [z02, hi]
    have hby : i.bytes = z0k P e := by simp [z0k, hi]
    have hsmall : m <= 9223372036854775807 := by simp only [maxLen] at hb2; omega
    have hcap : ∀ n, n <= maxLen -> ∀ w0 : World, n <= grownCap w0 n 0 e /\ grownCap w0 n 0 e <= maxLen := fun n hn w0 => ⟨by simp only [grownCap, Question.cut]; omega, grownCap_le_maxLen w0 n 0 e hn⟩
    split at V
    ·-- an empty literal
     cases V
     simp only [rel] at hx
     obtain ⟨b, rfl⟩ := hx
     have stay : m = 0 -> rel s (.rsl false (z02 P e) (z1m (z04 P e) (z02 P e) m news)) (.slice (some b) 0 0) := by
      intro h0
      subst h0
      simp only [rel, z1m]
      exact .inr ⟨b, 0, [], rfl, Nat.le_refl _, by simp [maxLen], z0q, fun i v hv => by simp at hv⟩
     rcases hs with ⟨rfl, rfl, rfl⟩ | ⟨a, c, us, rfl, hr, h1, hl, hcell⟩
     ·refine ⟨.slice (some b) 0 0, s, w, ?_, Step.refl s w, h, rfl, rfl, stay rfl⟩
      simp [Builtin.append_, run_underlying hu, sizeOf, typeInfo, hi, Builtin.lenOf, Builtin.firstCells, storeCells]
     ·by_cases h0 : m = 0
      ·subst h0
       have hus : us = [] := List.eq_nil_of_length_eq_zero (by simpa using hl)
       subst hus
       refine ⟨.slice (some b) 0 0, s, w, ?_, Step.refl s w, h, rfl, rfl, stay rfl⟩
       have hf := run_firstCells_some (P := P) w i.size 0 a 0 c [] (by simp) (by simp)
       simp [Builtin.append_, run_underlying hu, sizeOf, typeInfo, hi, Builtin.lenOf, hf, storeCells]
      ·have hrun := run_append_grow (P := P) w t ty e i z hu hi hzz b 0 0 [] (by simp) (by simp) a m c us (by rw [hl, hsz]) hcell (by omega) (by omega) (by rw [hby]; exact growslice_fits (by omega) (by simpa using hb1))
       simp only [Nat.zero_add] at hrun
       have hgrew : Grew w (w.drew.alloc (.cells ((([] : List Value).toArray ++ us.toArray) ++ Builtin.zeroCells z.cells (grownCap w m 0 e - m)) e)) := Grew.of_drew (Grew.alloc _ _)
       obtain ⟨g1, g2⟩ := z91 h hgrew
       refine ⟨_, _, _, hrun, g1, g2, rfl, rfl, zgz h hgrew hone hl hr hp h1 (hcap m hb2 w).1 (hcap m hb2 w).2 (fun j u hj => ?_) false⟩
       have hj' : j < us.length := (List.getElem?_eq_some_iff.1 hj).1
       rw [show (w.drew.alloc (.cells ((([] : List Value).toArray ++ us.toArray) ++ Builtin.zeroCells z.cells (grownCap w m 0 e - m)) e)).cell? ⟨w.heap.size, j, none⟩ = _ from World.cell?_alloc_new (w := w.drew) _ _ _]
       rw [Array.getElem?_append_left (by simpa using hj')]
       simpa using hj
    ·-- nil
     cases V
     simp only [rel] at hx
     subst hx
     have stay : m = 0 -> news = [] -> rel s (.rsl false (z02 P e) (z1m (z04 P e) (z02 P e) m news)) (.slice none 0 0) := by
      intro h0 hn
      subst h0
      simp only [rel, z1m]
      simp
     rcases hs with ⟨rfl, rfl, rfl⟩ | ⟨a, c, us, rfl, hr, h1, hl, hcell⟩
     ·refine ⟨.slice none 0 0, s, w, ?_, Step.refl s w, h, rfl, rfl, stay rfl rfl⟩
      simp [Builtin.append_, run_underlying hu, sizeOf, typeInfo, hi, Builtin.lenOf, Builtin.firstCells]
     ·by_cases h0 : m = 0
      ·subst h0
       have hus : us = [] := List.eq_nil_of_length_eq_zero (by simpa using hl)
       subst hus
       have hn0 : news = [] := List.eq_nil_of_length_eq_zero (by rw [<- z06 hr]; rfl)
       refine ⟨.slice none 0 0, s, w, ?_, Step.refl s w, h, rfl, rfl, stay rfl hn0⟩
       have hf := run_firstCells_some (P := P) w i.size 0 a 0 c [] (by simp) (by simp)
       simp [Builtin.append_, run_underlying hu, sizeOf, typeInfo, hi, Builtin.lenOf, hf]
      ·have hrun := run_append_nil (P := P) w t ty e i z hu hi hzz a m c us (by rw [hl, hsz]) hcell (by omega) (by omega) (by rw [hby]; omega)
       have hgrew : Grew w (w.drew.alloc (.cells (us.toArray ++ Builtin.zeroCells z.cells (grownCap w m 0 e - m)) e)) := Grew.of_drew (Grew.alloc _ _)
       obtain ⟨g1, g2⟩ := z91 h hgrew
       refine ⟨_, _, _, hrun, g1, g2, rfl, rfl, zgz h hgrew hone hl hr hp h1 (hcap m hb2 w).1 (hcap m hb2 w).2 (fun j u hj => ?_) false⟩
       have hj' : j < us.length := (List.getElem?_eq_some_iff.1 hj).1
       rw [show (w.drew.alloc (.cells (us.toArray ++ Builtin.zeroCells z.cells (grownCap w m 0 e - m)) e)).cell? ⟨w.heap.size, j, none⟩ = _ from World.cell?_alloc_new (w := w.drew) _ _ _]
       rw [Array.getElem?_append_left (by simpa using hj')]
       simpa using hj
    ·-- a slice without room behind it
     rename_i sz els
     split at V
     ·rename_i hc3
      obtain ⟨hm0, rfl, F, hb4⟩ := hc3
      simp only [Option.bind_eq_some_iff] at V
      obtain ⟨cs, hcs, V⟩ := V
      split at V
      ·rename_i hpc
       cases V
       have hx0 := hx
       simp only [rel] at hx0
       rcases hx0 with ⟨rfl, rfl⟩ | ⟨a0, vs0, hv0, hmx, hrv0, hlv0⟩
       ·-- nil
        simp only [z1h, Option.some.injEq] at hcs
        subst hcs
        rcases hs with ⟨rfl, rfl, rfl⟩ | ⟨a, c, us, rfl, hr, h1, hl, hcell⟩
        ·omega
        ·have hrun := run_append_nil (P := P) w t ty e i z hu hi hzz a m c us (by rw [hl, hsz]) hcell (by omega) (by omega) (by rw [hby]; omega)
         have hgrew : Grew w (w.drew.alloc (.cells (us.toArray ++ Builtin.zeroCells z.cells (grownCap w m 0 e - m)) e)) := Grew.of_drew (Grew.alloc _ _)
         obtain ⟨g1, g2⟩ := z91 h hgrew
         refine ⟨_, _, _, hrun, g1, g2, rfl, rfl, ?_⟩
         have := zgz h hgrew hone hl hr hp h1 (hcap m hb2 w).1 (hcap m hb2 w).2 (fun j u hj => ?_) true
         ·simpa using this
         have hj' : j < us.length := (List.getElem?_eq_some_iff.1 hj).1
         rw [show (w.drew.alloc (.cells (us.toArray ++ Builtin.zeroCells z.cells (grownCap w m 0 e - m)) e)).cell? ⟨w.heap.size, j, none⟩ = _ from World.cell?_alloc_new (w := w.drew) _ _ _]
         rw [Array.getElem?_append_left (by simpa using hj')]
         simpa using hj
       have hx1 : rel s (.rsl true (z02 P e) els) vx := by
        simp only [rel]
        exact .inr ⟨a0, els.length, vs0, hv0, Nat.le_refl _, hmx, hrv0, hlv0⟩
       have hsrc2 : z7w s.H e (z02 P e) (.rsl true (z02 P e) els) = some (els.length, cs) := by simp [z7w, hcs]
       have hs2 := z68 h hpos rfl hsrc2 hx1
       rcases hs2 with ⟨rfl, _, _⟩ | ⟨b, c2, olds, hvb, hro, h1o, hlo, hcello⟩
       ·cases hv0
       ·have hc2 : c2 = els.length /\ b = a0 := by rw [hv0] at hvb; cases hvb; exact ⟨rfl, rfl⟩
        obtain ⟨rfl, rfl⟩ := hc2
        subst hv0
        rcases hs with ⟨rfl, rfl, rfl⟩ | ⟨a, c, us, rfl, hr, h1, hl, hcell⟩
        ·omega
        ·have hrun := run_append_grow (P := P) w t ty e i z hu hi hzz b els.length els.length olds (by rw [hlo, hsz]) hcello a m c us (by rw [hl, hsz]) hcell (by omega) (by simp only [maxLen] at hb4; omega) (by rw [hby]; exact growslice_fits (by omega) (by simpa using F))
         have hgrew : Grew w (w.drew.alloc (.cells (olds.toArray ++ us.toArray ++ Builtin.zeroCells z.cells (grownCap w (els.length + m) els.length e - (els.length + m))) e)) := Grew.of_drew (Grew.alloc _ _)
         obtain ⟨g1, g2⟩ := z91 h hgrew
         refine ⟨_, _, _, hrun, g1, g2, rfl, rfl, zgz h hgrew hone (us := olds ++ us) (by rw [List.length_append, hlo, hl, Nat.add_mul]) (z1n hro hr) (by rw [zoc, hpc, hp]; rfl) (z3y h1o h1) (grownCap_ge w (els.length + m) els.length e) (grownCap_le_maxLen w (els.length + m) els.length e hb4) (fun j u hj => ?_) true⟩
         have hj' : j < (olds ++ us).length := (List.getElem?_eq_some_iff.1 hj).1
         rw [show (w.drew.alloc (.cells (olds.toArray ++ us.toArray ++ Builtin.zeroCells z.cells (grownCap w (els.length + m) els.length e - (els.length + m))) e)).cell? ⟨w.heap.size, j, none⟩ = _ from World.cell?_alloc_new (w := w.drew) _ _ _]
         rw [Array.getElem?_append_left (by simpa using hj')]
         simpa using hj
      ·cases V
     ·cases V
    ·cases V
   ·cases V
  ·cases V
end Go.Proofs.YtppebcifiejplaaGreatDoor.Abs
namespace Go.Proofs.YtppebcifiejplaaGreatDoor.Abs
open Go.RowKit
variable {P : Program}

theorem z7b : ∀ (es : List (D × D)) (i : Nat) (x : D), (z8y es i x).map (·.1) = es.map (·.1)
 | [], _, _ => rfl
 | _ :: _, 0, _ => rfl
 | e :: es, i + 1, x => by simp [z8y, z7b es i x]
theorem zdp : ∀ (es : List (D × D)) (i : Nat) (x : D), (z8y es i x).map (·.2) = (es.map (·.2)).set i x
 | [], _, _ => rfl
 | _ :: _, 0, _ => rfl
 | e :: es, i + 1, x => by simp [z8y, zdp es i x]

def z9v (s : RS) (l : List MapEntry) (i0 : Nat) : Option (Nat × D) -> Option (Nat × Value) -> Prop
 | none, o => o = none
 | some (i, d), o => ∃ e, l[i]? = some e /\ o = some (i0 + i, e.val) /\ rel s d e.val

theorem z80 {s : RS} {w : World} {kt : TypeId} {k : D} {kv : Value} (O : rel s k kv) : ∀ (es : List (D × D)) (l : List MapEntry) (i0 : Nat) (r : Option (Nat × D)), za9 P kt k es = some r ->
  relAll s (es.map (·.1)) (l.map (·.key)) -> relAll s (es.map (·.2)) (l.map (·.val)) -> ∃ o, (Instr.findAsking kt kv l i0).run P w = .ok o w /\ z9v s l i0 r o
 | [], l, i0, r, h, h1, h2 => by
  simp only [za9, Option.some.injEq] at h; subst h
  simp only [List.map_nil, relAll, List.map_eq_nil_iff] at h1; subst h1
  exact ⟨none, rfl, rfl⟩
 | (k', d) :: es, l, i0, r, h, h1, h2 => by
  cases l with
  | nil => simp [relAll] at h1
  | cons e l =>
   simp only [List.map_cons, relAll] at h1 h2
   obtain ⟨v1, r1, e1, hk1, hr1⟩ := h1
   obtain ⟨v2, r2, e2, hd2, hr2⟩ := h2
   simp only [List.cons.injEq] at e1 e2
   obtain ⟨rfl, rfl⟩ := e1
   obtain ⟨rfl, rfl⟩ := e2
   simp only [za9] at h
   have heq : ∀ b, eqK P kt k k' = some b -> (Op.equal kt kv e.key).run P w = .ok b w := fun b hb => by
    unfold eqK at hb
    split at hb
    ·exact zdm s 8 10000 kt k k' kv e.key b (by decide) hb O hk1 w
    ·cases hb
   cases hc : eqK P kt k k' with
   | none => rw [hc] at h; cases h
   | some b =>
    rw [hc] at h
    cases b with
    | true =>
     simp only [Option.some.injEq] at h; subst h
     refine ⟨some (i0, e.val), ?_, e, rfl, rfl, hd2⟩
     simp only [Instr.findAsking, Sem.run_bind, heq _ hc, Result.andThen_ok, if_true, Sem.run_pure]
    | false =>
     simp only [Option.map_eq_some_iff] at h
     obtain ⟨r', h', rfl⟩ := h
     obtain ⟨o, ho, hf⟩ := z80 O es l (i0 + 1) r' h' hr1 hr2
     refine ⟨o, ?_, ?_⟩
     ·simp only [Instr.findAsking, Sem.run_bind, heq _ hc, Result.andThen_ok, Bool.false_eq_true, if_false]
      exact ho
     ·cases r' with
      | none => exact hf
      | some q =>
       obtain ⟨i, dd⟩ := q
       obtain ⟨e', g1, g2, g3⟩ := hf
       exact ⟨e', by simpa using g1, by rw [g2]; congr 2; omega, g3⟩

theorem zah {s : RS} {kt : TypeId} {td : TypeDesc} (hu : P.underlying kt = some td) (htd : (∃ k, td = .int k) \/ td = .string \/ td = .bool) {k : D} {kv : Value} (O : rel s k kv) : ∀ (es : List (D × D)) (l : List MapEntry) (i0 : Nat) (r : Option (Nat × D)), za9 P kt k es = some r ->
  relAll s (es.map (·.1)) (l.map (·.key)) -> relAll s (es.map (·.2)) (l.map (·.val)) -> ∃ o, Instr.findNow td kv l i0 = some o /\ z9v s l i0 r o
 | [], l, i0, r, h, h1, h2 => by
  simp only [za9, Option.some.injEq] at h; subst h
  simp only [List.map_nil, relAll, List.map_eq_nil_iff] at h1; subst h1
  exact ⟨none, rfl, rfl⟩
 | (k', d) :: es, l, i0, r, h, h1, h2 => by
  cases l with
  | nil => simp [relAll] at h1
  | cons e l =>
   simp only [List.map_cons, relAll] at h1 h2
   obtain ⟨v1, r1, e1, hk1, hr1⟩ := h1
   obtain ⟨v2, r2, e2, hd2, hr2⟩ := h2
   simp only [List.cons.injEq] at e1 e2
   obtain ⟨rfl, rfl⟩ := e1
   obtain ⟨rfl, rfl⟩ := e2
   simp only [za9] at h
   have heq : ∀ b, eqK P kt k k' = some b -> Instr.sameNow td kv e.key = some b := fun b hb => by
    unfold eqK at hb
    split at hb
    ·simp only [eqD, hu] at hb
     rcases htd with ⟨kk, rfl⟩ | rfl | rfl
     ·split at hb <;> first | (cases hb; done) | skip
      all_goals simp_all [rel, Instr.sameNow]
     ·split at hb <;> first | (cases hb; done) | skip
      all_goals simp_all [rel, Instr.sameNow]
      all_goals (rw [<- hb, Bool.eq_iff_iff, decide_eq_true_iff, MapKept.bytes_beq])
     ·split at hb <;> first | (cases hb; done) | skip
      all_goals simp_all [rel, Instr.sameNow]
    ·cases hb
   cases hc : eqK P kt k k' with
   | none => rw [hc] at h; cases h
   | some b =>
    rw [hc] at h
    cases b with
    | true =>
     simp only [Option.some.injEq] at h; subst h
     refine ⟨some (i0, e.val), ?_, e, rfl, rfl, hd2⟩
     simp only [Instr.findNow, heq _ hc]
    | false =>
     simp only [Option.map_eq_some_iff] at h
     obtain ⟨r', h', rfl⟩ := h
     obtain ⟨o, ho, hf⟩ := zah hu htd O es l (i0 + 1) r' h' hr1 hr2
     refine ⟨o, ?_, ?_⟩
     ·simp only [Instr.findNow, heq _ hc]
      exact ho
     ·cases r' with
      | none => exact hf
      | some q =>
       obtain ⟨i, dd⟩ := q
       obtain ⟨e', g1, g2, g3⟩ := hf
       exact ⟨e', by simpa using g1, by rw [g2]; congr 2; omega, g3⟩

theorem zbi {kt : TypeId} (h : zri P kt = true) : ∃ td, P.underlying kt = some td /\ (((∃ k, td = .int k) \/ td = .string \/ td = .bool) \/ ∃ fs, td = .struct fs /\ z8x P fs.toList 0 (z02 P kt) = true) := by
 unfold zri at h
 split at h
 ·exact ⟨_, ‹_›, .inl (.inl ⟨_, rfl⟩)⟩
 ·exact ⟨_, ‹_›, .inl (.inr (.inl rfl))⟩
 ·exact ⟨_, ‹_›, .inl (.inr (.inr rfl))⟩
 ·exact ⟨_, ‹_›, .inr ⟨_, rfl, h⟩⟩
 ·cases h

theorem zai {s : RS} {w : World} {kt : TypeId} {k : D} {kv : Value} (ht : zri P kt = true) (O : rel s k kv) {es : List (D × D)} {l : List MapEntry} {r : Option (Nat × D)} (h : za9 P kt k es = some r)
  (h1 : relAll s (es.map (·.1)) (l.map (·.key))) (h2 : relAll s (es.map (·.2)) (l.map (·.val))) : ∃ o, (Instr.findKey kt kv l).run P w = .ok o w /\ z9v s l 0 r o := by
 obtain ⟨td, hu, hc | ⟨fs, rfl, _⟩⟩ := zbi ht
 ·obtain ⟨o, ho, hf⟩ := zah hu hc O es l 0 r h h1 h2
  exact ⟨o, by simp [Instr.findKey, run_underlying hu, ho], hf⟩
 ·obtain ⟨o, ho, hf⟩ := z80 (w := w) O es l 0 r h h1 h2
  refine ⟨o, ?_, hf⟩
  cases l with
  | nil => simpa [Instr.findKey, run_underlying hu, Instr.findNow, Instr.findAsking] using ho
  | cons e l =>
   have : Instr.findNow (.struct fs) kv (e :: l) 0 = none := by simp [Instr.findNow, Instr.sameNow]
   simp only [Instr.findKey, Sem.run_bind, run_underlying hu, Result.andThen_ok, this]
   exact ho

def zlc (u : Value) : Prop := (∃ k n, u = .int k n) \/ (∃ x, u = .string x) \/ ∃ b, u = .bool b
theorem zi8 {u : Value} (h : zlc u) (n : Nat) : Instr.sameBits n u u = true := by
 rcases h with ⟨k, m, rfl⟩ | ⟨x, rfl⟩ | ⟨b, rfl⟩
 ·simp [Instr.sameBits]
 ·simp only [Instr.sameBits]; exact (MapKept.bytes_beq x x).2 rfl
 ·simp [Instr.sameBits]
theorem z9w {t : TypeId} (h : zf3 P t = true) : ∃ td, P.underlying t = some td /\ ((∃ k, td = .int k) \/ td = .string \/ td = .bool) := by
 unfold zf3 at h
 split at h
 ·exact ⟨_, ‹_›, .inl ⟨_, rfl⟩⟩
 ·exact ⟨_, ‹_›, .inr (.inl rfl)⟩
 ·exact ⟨_, ‹_›, .inr (.inr rfl)⟩
 ·cases h
theorem zrr {t : TypeId} (h : zf3 P t = true) : z04 P t = false /\ z0n P t = true := by
 obtain ⟨td, hu, ⟨k, rfl⟩ | rfl | rfl⟩ := z9w h <;> simp [z04, z0n, hu]
theorem zrs {s : RS} {t : TypeId} {d : Nat} {a b : D} {u v : Value} (ht : zf3 P t = true) (h : eqD P (d + 1) t a b = some true) (ha : rel s a u) (hb : rel s b v) : u = v /\ zlc u := by
 obtain ⟨td, hu, hc⟩ := z9w ht
 simp only [eqD, hu] at h
 rcases hc with ⟨kk, rfl⟩ | rfl | rfl
 ·split at h <;> first | (cases h; done) | skip
  all_goals simp_all [rel, zlc]
 ·split at h <;> first | (cases h; done) | skip
  all_goals simp_all [rel, zlc]
 ·split at h <;> first | (cases h; done) | skip
  all_goals simp_all [rel, zlc]
theorem zbj {t : TypeId} (h : zf3 P t = true) (cs : List D) (off : Nat) : z3x P t cs off = cs[off]? := by
 obtain ⟨h1, h2⟩ := zrr h
 unfold z3x
 rw [h1, h2]; rfl
theorem zfz {s : RS} {n d : Nat} {xs ys : List D} {vs us : List Value} (hx : relAll s xs vs) (hy : relAll s ys us) : ∀ (l : List Field) (off : Nat), z8x P l off n = true -> z1a (eqD P (d + 1)) P xs ys l = some true ->
  ∀ j, off <= j -> j < n -> ∃ u, vs[j]? = some u /\ us[j]? = some u /\ zlc u
 | [], off, ht, _, j, h1, h2 => by
  simp only [z8x, beq_iff_eq] at ht; omega
 | f :: l, off, ht, he, j, h1, h2 => by
  simp only [z8x, Bool.and_eq_true, beq_iff_eq, decide_eq_true_eq] at ht
  obtain ⟨⟨⟨⟨h3, h4⟩, h5⟩, _⟩, h7⟩ := ht
  simp only [z1a] at he
  rw [if_pos h4, zbj h5, zbj h5, h3] at he
  cases hxo : xs[off]? with
  | none => rw [hxo] at he; cases he
  | some a =>
   cases hyo : ys[off]? with
   | none => rw [hxo, hyo] at he; cases he
   | some b =>
    rw [hxo, hyo] at he
    simp only at he
    cases hab : eqD P (d + 1) f.type a b with
    | none => rw [hab] at he; cases he
    | some r =>
     rw [hab] at he
     simp only at he
     split at he
     ·rename_i hr
      subst hr
      by_cases hj : j = off
      ·subst hj
       obtain ⟨u, hu, hru⟩ := z29 hx _ _ hxo
       obtain ⟨v, hv, hrv⟩ := z29 hy _ _ hyo
       obtain ⟨e, hl⟩ := zrs h5 hab hru hrv
       exact ⟨u, hu, by rw [e]; exact hv, hl⟩
      ·exact zfz hx hy l (off + 1) h7 he j (by omega) h2
     ·cases he
theorem zmq {t : TypeId} {ds : List D} (h : z8w P t (.agg ds) = true) : ds.length = z02 P t := by
 simp only [z8w, Bool.and_eq_true, beq_iff_eq] at h; exact h.2
theorem z000 {d : Nat} {t : TypeId} {x y : D} : eqD P (d + 2) t x y = match P.underlying t, x, y with
  | some .bool, .bool a, .bool b => some (a == b)
  | some (.int _), .int k a, .int k' b => if k = k' then some (a == b) else none
  | some .string, .str a, .str b => some (decide (a = b))
  | some (.struct fs), .agg xs, .agg ys => if P.stoodInHeld t = false then z1a (eqD P (d + 1)) P xs ys fs.toList else none
  | _, _, _ => none := rfl
theorem zrt {s : RS} {kt : TypeId} {k k' : D} {v v' : Value} (ht : zri P kt = true) (d : Nat) (h : eqD P (d + 2) kt k k' = some true) (hfit : z8w P kt k = true /\ z8w P kt k' = true) (O : rel s k v) (hk' : rel s k' v') : v = v' /\ Instr.sameBits 10000 v v = true := by
 ·obtain ⟨td, hu, hc | ⟨fs, rfl, htl⟩⟩ := zbi ht
  ·have hl : zf3 P kt = true := by
    unfold zf3; rw [hu]
    rcases hc with ⟨kk, rfl⟩ | rfl | rfl <;> rfl
   obtain ⟨e, hlv⟩ := zrs hl h O hk'
   exact ⟨e, zi8 hlv _⟩
  ·simp only [z000, hu] at h
   split at h <;> first | (cases h; done) | skip
   all_goals first | (simp only [reduceCtorEq, Option.some.injEq] at *; done) | skip
   rename_i fs' xs ys hfs
   split at h
   ·simp only [Option.some.injEq, TypeDesc.struct.injEq] at hfs
    subst hfs
    simp only [rel] at O hk'
    obtain ⟨vs, rfl, hr1, _⟩ := O
    obtain ⟨us, rfl, hr2, _⟩ := hk'
    have l1 := zmq hfit.1
    have l2 := zmq hfit.2
    have m1 := z06 hr1
    have m2 := z06 hr2
    have key := zfz hr1 hr2 fs.toList 0 htl h
    have e : vs = us := by
     apply List.ext_getElem?
     intro j
     by_cases hj : j < z02 P kt
     ·obtain ⟨u, h1, h2, _⟩ := key j (Nat.zero_le _) hj
      rw [h1, h2]
     ·rw [List.getElem?_eq_none (by omega), List.getElem?_eq_none (by omega)]
    refine ⟨by rw [e], ?_⟩
    have hall : ∀ x ∈ vs, zlc x := by
     intro x hx
     obtain ⟨j, hj, rfl⟩ := List.mem_iff_getElem.1 hx
     obtain ⟨u, h1, _, h3⟩ := key j (Nat.zero_le _) (by omega)
     rw [List.getElem?_eq_getElem hj, Option.some.injEq] at h1
     rw [h1]; exact h3
    show Instr.sameBits (9999 + 1) _ _ = true
    simp only [Instr.sameBits, beq_self_eq_true, Bool.true_and, List.all_eq_true]
    rintro ⟨x, y⟩ hxy
    have hxy' := hxy
    rw [List.mem_iff_getElem] at hxy
    obtain ⟨j, hj, he⟩ := hxy
    rw [List.getElem_zip, Prod.mk.injEq] at he
    obtain ⟨rfl, rfl⟩ := he
    exact zi8 (hall _ (by simp)) _
   ·cases h
theorem zwi {s : RS} {kt : TypeId} {k k' : D} {v v' : Value} (ht : zri P kt = true) (h : eqK P kt k k' = some true) (O : rel s k v) (hk' : rel s k' v') : v = v' /\ Instr.sameBits 10000 v v = true := by
 unfold eqK at h
 split at h
 ·rename_i hfit
  exact zrt ht 6 h hfit O hk'
 ·cases h

theorem zaj {w : World} {t : TypeId} {v : Value} (h : zf3 P t = true) (e : Bool) (n : Nat) : (Instr.checkKey e (n + 1) t v).run P w = .ok () w := by
 obtain ⟨td, hu, hc⟩ := z9w h
 unfold Instr.checkKey
 simp only [Sem.run_bind, run_underlying hu, Result.andThen_ok]
 rcases hc with ⟨kk, rfl⟩ | rfl | rfl <;> cases v <;> rfl
theorem z8f {s : RS} {w : World} {n k : Nat} {xs : List D} {vs : List Value} (hr : relAll s xs vs) (h1 : z5t vs) (e : Bool) (hn : xs.length = n) : ∀ (l : List Field) (off : Nat), z8x P l off n = true ->
  (forIn l PUnit.unit fun f (_ : PUnit) => if f.name ≠ "_" then (do
   let x <- part f.type vs.toArray f.offset
   Instr.checkKey e (k + 1) f.type x
   pure (ForInStep.yield PUnit.unit)) else pure (ForInStep.yield PUnit.unit) : Sem PUnit).run P w = .ok PUnit.unit w
 | [], _, _ => by simp
 | f :: l, off, ht => by
  simp only [z8x, Bool.and_eq_true, beq_iff_eq, decide_eq_true_eq] at ht
  obtain ⟨⟨⟨⟨h3, h4⟩, h5⟩, h6⟩, h7⟩ := ht
  have hlt : off < n := by
   have key : ∀ (l : List Field) (off : Nat), z8x P l off n = true -> off <= n := by
    intro l
    induction l with
    | nil => intro off h; simp only [z8x, beq_iff_eq] at h; omega
    | cons g l ih =>
     intro off h
     simp only [z8x, Bool.and_eq_true, beq_iff_eq, decide_eq_true_eq] at h
     have := ih _ h.2
     omega
   have := key l (off + 1) h7
   omega
  obtain ⟨u, _, _, _, hp⟩ := z4m (P := P) (t := f.type) (off := off) (d := xs[off]'(by omega)) (by rw [zbj h5, List.getElem?_eq_getElem]) hr h1
  have ih := z8f (w := w) (k := k) hr h1 e hn l (off + 1) h7
  simp only [List.forIn_cons, Sem.run_bind, h3, hp, Result.andThen_ok]
  simp only [h4, ne_eq, not_false_eq_true, if_true, Sem.run_bind, hp, Result.andThen_ok, zaj h5, Sem.run_pure]
  exact ih
theorem zak {s : RS} {w : World} {kt : TypeId} {k : D} {kv : Value} (ht : zri P kt = true) (hf : z8w P kt k = true) (O : rel s k kv) (e : Bool) : (Instr.checkKey e 10000 kt kv).run P w = .ok () w := by
 obtain ⟨td, hu, hc | ⟨fs, rfl, htl⟩⟩ := zbi ht
 ·have hl : zf3 P kt = true := by
   unfold zf3; rw [hu]
   rcases hc with ⟨kk, rfl⟩ | rfl | rfl <;> rfl
  exact zaj hl e 9999
 ·have hag : z04 P kt = true := by simp [z04, hu]
  have hone : z0n P kt = false := by simp [z0n, hu]
  unfold z8w at hf
  split at hf
  ·rename_i ds
   simp only [Bool.and_eq_true, beq_iff_eq] at hf
   simp only [rel] at O
   obtain ⟨vs, rfl, hr, h1⟩ := O
   have := z8f (w := w) (k := 9998) hr h1 e hf.2 fs.toList 0 htl
   show (Instr.checkKey e (9999 + 1) kt _).run P w = _
   unfold Instr.checkKey
   simp only [Sem.run_bind, run_underlying hu, Result.andThen_ok]
   rw [<- Array.forIn_toList]
   have e2 : (Sem.run P (forIn fs.toList PUnit.unit fun f (_ : PUnit) => if f.name ≠ "_" then (do
    let x <- part f.type vs.toArray f.offset
    Instr.checkKey e (9998 + 1) f.type x
    pure (ForInStep.yield PUnit.unit)) else pure (ForInStep.yield PUnit.unit)) w) = .ok PUnit.unit w := this
   rw [e2]; rfl
  ·cases hf
  ·cases hf
  ·rw [hone] at hf; cases hf

theorem zod {ens : Array MapEntry} {clock : Nat} {k v : Value} (h : zfu ens clock) : zfu (ens.push { key := k, val := v, born := clock }) (clock + 1) := by
 refine ⟨fun x hx => ?_, ?_⟩
 ·rw [Array.toList_push, List.mem_append, List.mem_singleton] at hx
  rcases hx with hx | rfl
  ·exact Nat.lt_succ_of_lt (h.1 x hx)
  ·exact Nat.lt_succ_self _
 ·rw [Array.toList_push, List.map_append, List.nodup_append]
  refine ⟨h.2, by simp, fun a ha b hb => ?_⟩
  obtain ⟨x, hx, rfl⟩ := List.mem_map.1 ha
  simp only [List.map_cons, List.map_nil, List.mem_singleton] at hb
  have := h.1 x hx
  omega
theorem zdq {ens : Array MapEntry} {i : Nat} {k v : Value} : (ens.modify i fun e => { e with key := k, val := v }).toList.map (·.born) = ens.toList.map (·.born) := by
 apply List.ext_getElem?
 intro j
 simp only [List.getElem?_map, Array.getElem?_toList, Array.getElem?_modify]
 split
 ·cases ens[j]? <;> rfl
 ·rfl
theorem zi9 {ens : Array MapEntry} {clock i : Nat} {k v : Value} (h : zfu ens clock) : zfu (ens.modify i fun e => { e with key := k, val := v }) clock := by
 refine ⟨fun x hx => ?_, by rw [zdq]; exact h.2⟩
 have : x.born ∈ ens.toList.map (·.born) := by rw [<- zdq (i := i) (k := k) (v := v)]; exact List.mem_map.2 ⟨x, hx, rfl⟩
 obtain ⟨y, hy, e⟩ := List.mem_map.1 this
 rw [<- e]; exact h.1 y hy
theorem zru : zfu #[] 0 := ⟨fun x hx => by simp at hx, by simp⟩
theorem zrv {s : RS} {w : World} (h : RH P s w) {id : Nat} {es : List (D × D)} (hid : s.H id = some (.map es)) :
  ∃ r ens clock, s.κ id = .map (some r) /\ w.heap[r]? = some (.map ens clock) /\ relAll s (es.map (·.1)) (ens.toList.map (·.key)) /\ relAll s (es.map (·.2)) (ens.toList.map (·.val)) /\ zfu ens clock := (h.obj id _ hid).2

theorem zrw {t : TypeId} {d : D} (h : zkx P t = some d) : ∃ z : Value, (∀ w, (zeroValue t).run P w = .ok z w) /\ ∀ s, rel s d z := by
 unfold zkx at h
 simp only [Option.map_eq_some_iff, Option.bind_eq_some_iff] at h
 obtain ⟨z, ⟨i, hi, hz⟩, rfl⟩ := h
 exact ⟨z, fun w => by simp [zeroValue, typeInfo, hi, hz], fun s => zl0 s z⟩

theorem zdr {w : World} {t kt et : TypeId} {xv kv v : Value} {ok : Bool} {i : Nat} {ens : Array MapEntry} (hmt : P.underlying t = some (.map kt et)) (hx : (xv = .map none /\ ens = #[]) \/ ∃ r clock, xv = .map (some r) /\ w.heap[r]? = some (.map ens clock))
  (hck : (Instr.checkKey ens.isEmpty 10000 kt kv).run P w = .ok () w) (ho : (Instr.findKey kt kv ens.toList).run P w = .ok (some (i, v)) w) : (Instr.lookup t xv kv ok).run P w = .ok (if ok = true then .tuple #[v, .bool true] else v) w := by
 rcases hx with ⟨rfl, rfl⟩ | ⟨r, clock, rfl, hh⟩
 ·simp at hck ho
  simp [Instr.lookup, run_underlying hmt, hck, ho]
 ·simp [Instr.lookup, run_underlying hmt, MapKept.run_getObj_map hh, hck, ho]
theorem zds {w : World} {t kt et : TypeId} {xv kv z : Value} {ok : Bool} {ens : Array MapEntry} (hmt : P.underlying t = some (.map kt et)) (hx : (xv = .map none /\ ens = #[]) \/ ∃ r clock, xv = .map (some r) /\ w.heap[r]? = some (.map ens clock))
  (hck : (Instr.checkKey ens.isEmpty 10000 kt kv).run P w = .ok () w) (ho : (Instr.findKey kt kv ens.toList).run P w = .ok none w) (hz : (zeroValue et).run P w = .ok z w) : (Instr.lookup t xv kv ok).run P w = .ok (if ok = true then .tuple #[z, .bool false] else z) w := by
 rcases hx with ⟨rfl, rfl⟩ | ⟨r, clock, rfl, hh⟩
 ·simp at hck ho
  simp [Instr.lookup, run_underlying hmt, hck, ho, hz]
 ·simp [Instr.lookup, run_underlying hmt, MapKept.run_getObj_map hh, hck, ho, hz]
theorem zdt {kt : TypeId} (h : zyx P kt = true) : ∃ e, P.underlying kt = some (.pointer e) /\ z02 P e ≠ 0 /\ ∃ i, P.info? e = some i := by
 unfold zyx at h
 split at h
 ·rename_i e hu
  simp only [Bool.and_eq_true, decide_eq_true_eq, Option.isSome_iff_exists] at h
  exact ⟨e, hu, h.1, h.2⟩
 ·cases h
theorem zdu {s : RS} {w : World} (h : RH P s w) {kt : TypeId} (hp : zyx P kt = true) {k k' : D} {v v' : Value} {b : Bool} (hq : zmh s.H k k' = some b) (O : rel s k v) (hk' : rel s k' v') :
  (Op.equal kt v v').run P w = .ok b w /\ (b = true -> v = v' /\ ∃ a, v = .pointer (some a)) := by
 obtain ⟨e, hu, hsz, inf, hi⟩ := zdt hp
 have hsz2 : inf.size ≠ 0 := by simpa [z02, hi] using hsz
 unfold zmh at hq
 split at hq
 ·rename_i i j
  split at hq
  ·rename_i e1 c1 e2 c2 h1 h2
   simp only [Option.some.injEq] at hq; subst hq
   simp only [rel] at O hk'
   obtain ⟨b1, g1, rfl⟩ := O.2.2 _ _ h1
   obtain ⟨b2, g2, rfl⟩ := hk'.2.2 _ _ h2
   obtain ⟨_, b1', vs1, k1, k2, _⟩ := h.obj _ _ h1
   obtain ⟨_, b2', vs2, k3, k4, _⟩ := h.obj _ _ h2
   rw [g1] at k1; rw [g2] at k3
   cases k1; cases k3
   by_cases hij : i = j
   ·subst hij
    rw [g1] at g2
    cases g2
    rw [decide_eq_true rfl]
    refine ⟨?_, fun _ => ⟨rfl, _, rfl⟩⟩
    have key : ∀ d : Nat, (Op.equalIn (d + 1) kt (.pointer (some ⟨b1, 0, none⟩)) (.pointer (some ⟨b1, 0, none⟩))).run P w = .ok true w := fun d => by
     simp [Op.equalIn, run_underlying hu, typeInfo, sizeOf, hi, run_sameAddr_same]
    simp only [Op.equal, Op.maxDepth]
    exact key 9999
   ·rw [decide_eq_false hij]
    have hb : b1 ≠ b2 := by
     have := h.apart i j (by rw [h1]; simp) (by rw [h2]; simp) hij (by rw [g1]; simp [blockOf])
     rw [g1, g2] at this
     intro e; subst e; exact this rfl
    refine ⟨?_, fun h => by cases h⟩
    have hne : (⟨b1, 0, none⟩ : Addr) ≠ ⟨b2, 0, none⟩ := fun e => hb (Addr.mk.inj e).1
    have key : ∀ d : Nat, (Op.equalIn (d + 1) kt (.pointer (some ⟨b1, 0, none⟩)) (.pointer (some ⟨b2, 0, none⟩))).run P w = .ok false w := fun d => by
     simp [Op.equalIn, run_underlying hu, typeInfo, sizeOf, hi, hsz2, run_sameAddr_other w hne k2 k4]
    simp only [Op.equal, Op.maxDepth]
    exact key 9999
  ·cases hq
 ·cases hq
theorem zcb {s : RS} {w : World} (h : RH P s w) {kt : TypeId} (hp : zyx P kt = true) {k : D} {kv : Value} (O : rel s k kv) : ∀ (es : List (D × D)) (l : List MapEntry) (i0 : Nat) (r : Option (Nat × D)), zd3 s.H k es = some r ->
  relAll s (es.map (·.1)) (l.map (·.key)) -> relAll s (es.map (·.2)) (l.map (·.val)) -> ∃ o, (Instr.findAsking kt kv l i0).run P w = .ok o w /\ z9v s l i0 r o
 | [], l, i0, r, h', h1, h2 => by
  simp only [zd3, Option.some.injEq] at h'; subst h'
  simp only [List.map_nil, relAll, List.map_eq_nil_iff] at h1; subst h1
  exact ⟨none, rfl, rfl⟩
 | (k', d) :: es, l, i0, r, h', h1, h2 => by
  cases l with
  | nil => simp [relAll] at h1
  | cons e l =>
   simp only [List.map_cons, relAll] at h1 h2
   obtain ⟨v1, r1, e1, hk1, hr1⟩ := h1
   obtain ⟨v2, r2, e2, hd2, hr2⟩ := h2
   simp only [List.cons.injEq] at e1 e2
   obtain ⟨rfl, rfl⟩ := e1
   obtain ⟨rfl, rfl⟩ := e2
   simp only [zd3] at h'
   cases hc : zmh s.H k k' with
   | none => rw [hc] at h'; cases h'
   | some b =>
    rw [hc] at h'
    have heq := (zdu h hp hc O hk1).1
    cases b with
    | true =>
     simp only [Option.some.injEq] at h'; subst h'
     refine ⟨some (i0, e.val), ?_, e, rfl, rfl, hd2⟩
     simp only [Instr.findAsking, Sem.run_bind, heq, Result.andThen_ok, if_true, Sem.run_pure]
    | false =>
     simp only [Option.map_eq_some_iff] at h'
     obtain ⟨r', h'', rfl⟩ := h'
     obtain ⟨o, ho, hf⟩ := zcb h hp O es l (i0 + 1) r' h'' hr1 hr2
     refine ⟨o, ?_, ?_⟩
     ·simp only [Instr.findAsking, Sem.run_bind, heq, Result.andThen_ok, Bool.false_eq_true, if_false]
      exact ho
     ·cases r' with
      | none => exact hf
      | some q =>
       obtain ⟨i, dd⟩ := q
       obtain ⟨e', g1, g2, g3⟩ := hf
       exact ⟨e', by simpa using g1, by rw [g2]; congr 2; omega, g3⟩
theorem zia {s : RS} {w : World} (h : RH P s w) {kt : TypeId} (hp : zyx P kt = true) {k : D} {kv : Value} (O : rel s k kv) {es : List (D × D)} {l : List MapEntry} {r : Option (Nat × D)} (hf : zd3 s.H k es = some r)
  (h1 : relAll s (es.map (·.1)) (l.map (·.key))) (h2 : relAll s (es.map (·.2)) (l.map (·.val))) : ∃ o, (Instr.findKey kt kv l).run P w = .ok o w /\ z9v s l 0 r o := by
 obtain ⟨el, hu, _⟩ := zdt hp
 obtain ⟨o, ho, hfo⟩ := zcb h hp O es l 0 r hf h1 h2
 refine ⟨o, ?_, hfo⟩
 cases l with
 | nil => simpa [Instr.findKey, run_underlying hu, Instr.findNow, Instr.findAsking] using ho
 | cons e l =>
  have : Instr.findNow (.pointer el) kv (e :: l) 0 = none := by cases kv <;> cases e.key <;> simp [Instr.findNow, Instr.sameNow]
  simp only [Instr.findKey, Sem.run_bind, run_underlying hu, Result.andThen_ok, this]
  exact ho
theorem zcc {w : World} {kt : TypeId} {v : Value} (hp : zyx P kt = true) (e : Bool) : (Instr.checkKey e 10000 kt v).run P w = .ok () w := by
 obtain ⟨el, hu, _⟩ := zdt hp
 show (Instr.checkKey e (9999 + 1) kt v).run P w = _
 unfold Instr.checkKey
 simp only [Sem.run_bind, run_underlying hu, Result.andThen_ok]
 cases v <;> rfl
theorem zg0 {H : HM} {k : D} : ∀ {es : List (D × D)} {i : Nat} {v : D}, zd3 H k es = some (some (i, v)) -> ∃ k', (es.map (·.1))[i]? = some k' /\ zmh H k k' = some true
 | [], i, v, h => by simp [zd3] at h
 | (k', d) :: es, i, v, h => by
  simp only [zd3] at h
  cases hc : zmh H k k' with
  | none => rw [hc] at h; cases h
  | some b =>
   rw [hc] at h
   cases b with
   | true =>
    simp only [Option.some.injEq, Prod.mk.injEq] at h
    obtain ⟨rfl, rfl⟩ := h
    exact ⟨k', rfl, hc⟩
   | false =>
    cases hq : zd3 H k es with
    | none => simp only [hq] at h; cases h
    | some q =>
     cases q with
     | none => simp only [hq] at h; cases h
     | some q =>
      simp only [hq, Option.map_some, Option.some.injEq, Prod.mk.injEq] at h
      obtain ⟨rfl, rfl⟩ := h
      obtain ⟨k2, g1, g2⟩ := zg0 (i := q.1) (v := q.2) hq
      exact ⟨k2, by simpa using g1, g2⟩
theorem zib {s : RS} {w : World} (h : RH P s w) {t : TypeId} {x k d : D} {ok : Bool} {xv kv : Value} (V : z6q P s.H t x k ok = some d) (hx : rel s x xv) (O : rel s k kv) :
  ∃ u, (Instr.lookup t xv kv ok).run P w = .ok u w /\ rel s d u := by
 unfold z6q at V
 split at V
 ·rename_i kt et es hm hes
  have fin : ∀ (fd : Option (Option (Nat × D))), zrd (zkx P et) ok fd = some d -> (∀ (ens : Array MapEntry) r, relAll s (es.map (·.1)) (ens.toList.map (·.key)) -> relAll s (es.map (·.2)) (ens.toList.map (·.val)) -> fd = some r -> ∃ o, (Instr.findKey kt kv ens.toList).run P w = .ok o w /\ z9v s ens.toList 0 r o) ->
    (∀ e, (Instr.checkKey e 10000 kt kv).run P w = .ok () w) -> ∃ u, (Instr.lookup t xv kv ok).run P w = .ok u w /\ rel s d u := by
   intro fd V hfind hcheck
   have hmt := zfd hm
   obtain ⟨ens, hxe, h1, h2⟩ : ∃ ens : Array MapEntry, ((xv = .map none /\ ens = #[]) \/ ∃ r clock, xv = .map (some r) /\ w.heap[r]? = some (.map ens clock)) /\ relAll s (es.map (·.1)) (ens.toList.map (·.key)) /\ relAll s (es.map (·.2)) (ens.toList.map (·.val)) := by
    unfold esD at hes
    split at hes
    ·simp only [Option.some.injEq] at hes; subst hes
     simp only [rel] at hx; subst hx
     exact ⟨#[], .inl ⟨rfl, rfl⟩, by simp [relAll], by simp [relAll]⟩
    ·rename_i id
     split at hes
     ·rename_i es' hH
      simp only [Option.some.injEq] at hes; subst hes
      obtain ⟨r, ens, clock, hκ, hheap, h1, h2, _⟩ := zrv h hH
      simp only [rel] at hx
      have hxv := hx.2.2 _ hH rfl
      rw [hκ] at hxv; subst hxv
      exact ⟨ens, .inr ⟨r, clock, rfl, hheap⟩, h1, h2⟩
     ·cases hes
    ·cases hes
   cases hf : fd with
   | none => rw [hf] at V; cases V
   | some r =>
    rw [hf] at V
    obtain ⟨o, ho, hfo⟩ := hfind ens r h1 h2 hf
    have hck := hcheck ens.isEmpty
    cases r with
    | none =>
     simp only [zrd, Option.map_eq_some_iff] at V
     obtain ⟨z, hz, rfl⟩ := V
     obtain ⟨zv, hzr, hzrel⟩ := zrw hz
     have hfo : o = none := hfo
     subst hfo
     refine ⟨_, zds hmt hxe hck ho (hzr w), ?_⟩
     cases ok
     ·simpa using hzrel s
     ·simp only [if_true, rel]; exact ⟨[zv, .bool false], rfl, z0m (hzrel s) (z0m (by simp [rel]) z0q)⟩
    | some q =>
     obtain ⟨i, v⟩ := q
     simp only [zrd, Option.some.injEq] at V
     obtain ⟨e, _, rfl, hrel⟩ := hfo
     refine ⟨_, zdr hmt hxe hck ho, ?_⟩
     cases ok
     ·simp only [Bool.false_eq_true, if_false] at V ⊢
      subst V; exact hrel
     ·simp only [if_true] at V ⊢
      subst V
      simp only [rel]; exact ⟨[e.val, .bool true], rfl, z0m hrel (z0m (by simp [rel]) z0q)⟩
  split at V
  ·rename_i hc
   exact fin _ V (fun ens r h1 h2 hf => zai (w := w) hc.1 O hf h1 h2) (fun e => zak (w := w) hc.1 hc.2 O e)
  ·split at V
   ·rename_i hc
    exact fin _ V (fun ens r h1 h2 hf => zia h hc O hf h1 h2) (fun e => zcc hc e)
   ·cases V
 ·cases V

theorem zic {kt : TypeId} {k : D} : ∀ {es : List (D × D)} {i : Nat} {v : D}, za9 P kt k es = some (some (i, v)) -> ∃ k', (es.map (·.1))[i]? = some k' /\ eqK P kt k k' = some true
 | [], i, v, h => by simp [za9] at h
 | (k', d) :: es, i, v, h => by
  simp only [za9] at h
  cases hc : eqK P kt k k' with
  | none => rw [hc] at h; cases h
  | some b =>
   rw [hc] at h
   cases b with
   | true =>
    simp only [Option.some.injEq, Prod.mk.injEq] at h
    obtain ⟨rfl, rfl⟩ := h
    exact ⟨k', rfl, hc⟩
   | false =>
    cases hq : za9 P kt k es with
    | none => simp only [hq] at h; cases h
    | some q =>
     cases q with
     | none => simp only [hq] at h; cases h
     | some q =>
      simp only [hq, Option.map_some, Option.some.injEq, Prod.mk.injEq] at h
      obtain ⟨rfl, rfl⟩ := h
      obtain ⟨k2, g1, g2⟩ := zic (i := q.1) (v := q.2) hq
      exact ⟨k2, by simpa using g1, g2⟩
theorem zoe {w : World} {r : Nat} {o o' : Obj} (hb : w.heap[r]? = some o) : ({ w with heap := w.heap.setIfInBounds r o' } : World).heap[r]? = some o' /\ ∀ k, k ≠ r -> ({ w with heap := w.heap.setIfInBounds r o' } : World).heap[k]? = w.heap[k]? := MapKept.heap_set hb

theorem zcd {s : RS} {w : World} (h : RH P s w) {t : TypeId} {m k x : D} {mv kv xv : Value} {H : HM} (V : z8z P s.H t m k x = some H) (hm : rel s m mv) (O : rel s k kv) (hx : rel s x xv) :
  ∃ s' w', (Instr.mapUpdate t mv kv xv).run P w = .ok () w' /\ Step s w s' w' /\ RH P s' w' /\ s'.H = H /\ s'.nx = s.nx := by
 unfold z8z at V
 split at V
 ·rename_i kt et id hmt
  split at V
  ·rename_i es hH
   have main : ∀ (fd : Option (Option (Nat × D))), (updR es k x fd).map (fun o => z1f s.H id (some o)) = some H -> (∀ (ens : Array MapEntry) r, relAll s (es.map (·.1)) (ens.toList.map (·.key)) -> relAll s (es.map (·.2)) (ens.toList.map (·.val)) -> fd = some r -> ∃ o, (Instr.findKey kt kv ens.toList).run P w = .ok o w /\ z9v s ens.toList 0 r o) ->
     (∀ e, (Instr.checkKey e 10000 kt kv).run P w = .ok () w) -> (∀ i v, fd = some (some (i, v)) -> ∃ k', (es.map (·.1))[i]? = some k' /\ ∀ e, rel s k' e -> kv = e /\ Instr.sameBits 10000 kv kv = true) ->
     ∃ s' w', (Instr.mapUpdate t mv kv xv).run P w = .ok () w' /\ Step s w s' w' /\ RH P s' w' /\ s'.H = H /\ s'.nx = s.nx := by
    intro fd V hfind hcheck hsm
    simp only [Option.map_eq_some_iff] at V
    obtain ⟨o', ho', rfl⟩ := V
    have hmt := zfd hmt
    obtain ⟨r, ens, clock, hκ, hheap, h1, h2, hst⟩ := zrv h hH
    simp only [rel] at hm
    have hmv := hm.2.2 _ hH rfl
    rw [hκ] at hmv; subst hmv
    have hck := hcheck false
    have hrlt : r < w.heap.size := z78 hheap
    have fin : ∀ (es' : List (D × D)) (ens' : Array MapEntry) (clock' : Nat), (Instr.mapUpdate t (.map (some r)) kv xv).run P w = .ok () { w with heap := w.heap.setIfInBounds r (.map ens' clock') } ->
      relAll s (es'.map (·.1)) (ens'.toList.map (·.key)) -> relAll s (es'.map (·.2)) (ens'.toList.map (·.val)) -> zfu ens' clock' ->
      ∃ s' w', (Instr.mapUpdate t (.map (some r)) kv xv).run P w = .ok () w' /\ Step s w s' w' /\ RH P s' w' /\ s'.H = z1f s.H id (some (.map es')) /\ s'.nx = s.nx := by
     intro es' ens' clock' hrun hr1 hr2 hst'
     obtain ⟨hs1, hs2⟩ := zoe (o' := .map ens' clock') hheap
     obtain ⟨g1, g2⟩ := zab (w' := { w with heap := w.heap.setIfInBounds r (.map ens' clock') }) h id (.map es) (.map es') (s.κ id) hH rfl rfl rfl (by simp)
      (fun k O hne => hs2 k (fun e => hne (by rw [hκ, e]; rfl))) (.inr ⟨_, rfl, rfl, rfl⟩) (fun b hb => .inl hb)
      (fun hl => ⟨r, ens', clock', hκ, hs1, relAll.later hl _ _ hr1, relAll.later hl _ _ hr2, hst'⟩)
     exact ⟨_, _, hrun, g1, g2, rfl, rfl⟩
    cases hf : fd with
    | none => rw [hf] at ho'; cases ho'
    | some q =>
     rw [hf] at ho'
     obtain ⟨o, ho, hfo⟩ := hfind ens q h1 h2 hf
     cases q with
     | none =>
      simp only [updR, Option.some.injEq] at ho'; subst ho'
      have hfo : o = none := hfo
      subst hfo
      refine fin (es ++ [(k, x)]) (ens.push { key := kv, val := xv, born := clock }) (clock + 1) ?_ ?_ ?_ (zod hst)
      ·simp [Instr.mapUpdate, run_underlying hmt, MapKept.run_getObj_map hheap, hck, ho, MapKept.run_setObj_map _ hheap]
      ·simpa using z1n h1 (z0m O z0q)
      ·simpa using z1n h2 (z0m hx z0q)
     | some q =>
      obtain ⟨i, v⟩ := q
      simp only [updR, Option.some.injEq] at ho'; subst ho'
      obtain ⟨e, hei, rfl, _⟩ := hfo
      rw [Nat.zero_add] at ho
      have hei' : ens[i]? = some e := by simpa using hei
      obtain ⟨k', hk'1, hk'2⟩ := hsm i v hf
      have hrk' : rel s k' e.key := by
       obtain ⟨u, hu1, hu2⟩ := z29 h1 i k' hk'1
       rw [List.getElem?_map, hei, Option.map_some, Option.some.injEq] at hu1
       rw [hu1]; exact hu2
      obtain ⟨hsame, hbits⟩ := hk'2 _ hrk'
      have hkts : (Instr.keyThatStays e.key kv).run P w = .ok kv w := by
       rw [<- hsame]; simp [Instr.keyThatStays, hbits]
      refine fin (z8y es i x) (ens.modify i fun e => { e with key := kv, val := xv }) clock ?_ ?_ ?_ (zi9 hst)
      ·simp [Instr.mapUpdate, run_underlying hmt, MapKept.run_getObj_map hheap, hck, ho, hei', hkts, MapKept.run_setObj_map _ hheap]
      ·rw [z7b]
       have : (ens.modify i fun e => { e with key := kv, val := xv }).toList.map (·.key) = ens.toList.map (·.key) := MapKept.modify_keys i _ (fun e' he' => by rw [hei'] at he'; cases he'; exact hsame)
       rw [this]; exact h1
      ·rw [zdp]
       have : (ens.modify i fun e => { e with key := kv, val := xv }).toList.map (·.val) = (ens.toList.map (·.val)).set i xv := by
        apply List.ext_getElem?
        intro j
        simp only [List.getElem?_map, Array.getElem?_toList, Array.getElem?_modify, List.getElem?_set, List.length_map, Array.length_toList]
        by_cases hij : i = j
        ·subst hij
         have hlt : i < ens.size := (Array.getElem?_eq_some_iff.1 hei').1
         simp [hei', hlt]
        ·simp [hij]
       rw [this]; exact zgt h2 i hx
   split at V
   ·rename_i hc
    refine main _ V (fun ens r h1 h2 hf => zai (w := w) hc.1 O hf h1 h2) (fun e => zak (w := w) hc.1 hc.2 O e) fun i v hf => ?_
    obtain ⟨k', g1, g2⟩ := zic hf
    exact ⟨k', g1, fun e he => zwi hc.1 g2 O he⟩
   ·split at V
    ·rename_i hc
     refine main _ V (fun ens r h1 h2 hf => zia h hc O hf h1 h2) (fun e => zcc hc e) fun i v hf => ?_
     obtain ⟨k', g1, g2⟩ := zg0 hf
     refine ⟨k', g1, fun e he => ?_⟩
     obtain ⟨q1, a, q2⟩ := (zdu h hc g2 O he).2 rfl
     exact ⟨q1, by rw [q2]; simp [Instr.sameBits]⟩
    ·cases V
  ·cases V
 ·cases V

theorem zh1 {s : RS} {w : World} (h : RH P s w) (t : TypeId) :
  ∃ v s' w', (Instr.makeMap t none).run P w = .ok v w' /\ Step s w s' w' /\ RH P s' w' /\ s'.H = z1f s.H s.nx (some (.map [])) /\ s'.nx = s.nx + 1 /\ rel s' (.mp s.nx) v := by
 obtain ⟨h3, h4⟩ := z5b h (Grew.alloc w (.map #[] 0)) (.map []) (.map (some w.heap.size)) (fun b hb => by simp only [blockOf, Option.some.injEq] at hb; omega)
  ⟨w.heap.size, #[], 0, rfl, by simpa using heap_alloc_new w (.map #[] 0), by simp [relAll], by simp [relAll], zru⟩
 refine ⟨.map (some w.heap.size), _, _, rfl, h3, h4, rfl, rfl, ?_⟩
 simp only [rel]
 refine ⟨by simp [RS.add], ⟨_, rfl⟩, fun es hH _ => by simp [RS.add]⟩
theorem zld {s : RS} {w : World} (h : RH P s w) {t : TypeId} {d : D} {v : Value} {q : Obj} (V : zf6 P t d = some q) (hv : rel s d v) :
  ∃ u s' w', (Instr.range t v).run P w = .ok u w' /\ Step s w s' w' /\ RH P s' w' /\ s'.H = z1f s.H s.nx (some (.raw q)) /\ s'.nx = s.nx + 1 /\ rel s' (.it s.nx) u := by
 unfold zf6 at V
 split at V
 ·rename_i x
  split at V
  ·rename_i ht
   cases V
   simp only [rel] at hv; subst hv
   obtain ⟨h3, h4⟩ := z5b h (Grew.alloc w (.stringIter x 0)) (.raw (.stringIter x 0)) (.pointer (some ⟨w.heap.size, 0, none⟩)) (fun b hb => by simp only [blockOf, Option.some.injEq] at hb; omega)
    ⟨w.heap.size, .inl rfl, by simpa using heap_alloc_new w (.stringIter x 0)⟩
   refine ⟨_, _, _, run_range_string w t x (z65 ht), h3, h4, rfl, rfl, ?_⟩
   simp only [rel]
   exact ⟨by simp [RS.add], ⟨_, rfl⟩, fun es hH _ => by simp [RS.add]⟩
  ·cases V
 ·cases V
theorem zof {s : RS} {w : World} (h : RH P s w) {b : Bool} {ty : TypeId} {d e : D} {v : Value} {H : HM} {nx : Nat} (V : zmi s.H s.nx b d = some (e, H, nx)) (hv : rel s d v) :
  ∃ u s' w', (Instr.next v b ty).run P w = .ok u w' /\ Step s w s' w' /\ RH P s' w' /\ s'.H = H /\ s'.nx = nx /\ rel s' e u := by
 unfold zmi at V
 split at V
 ·rename_i id
  split at V
  ·rename_i x p hH
   simp only [rel] at hv
   obtain ⟨hid, ⟨a0, ha0⟩, hv⟩ := hv
   have hv := hv _ hH rfl
   obtain ⟨_, r, O, hh⟩ := h.obj id _ hH
   have O : s.κ id = .pointer (some ⟨r, 0, none⟩) := by
    rcases O with O | O
    ·exact O
    ·rw [hv, O] at ha0; cases ha0
   rw [O] at hv; subst hv
   split at V
   ·rename_i hp
    simp only [Option.some.injEq, Prod.mk.injEq] at V
    obtain ⟨rfl, rfl, rfl⟩ := V
    obtain ⟨g1, g2⟩ := zab (w' := w.iterAt r x (p + (Utf8.decode x p).2)) h id _ (.raw (.stringIter x (p + (Utf8.decode x p).2))) (s.κ id) hH rfl rfl rfl (by simp [World.iterAt])
     (fun k hk' hne => by
      simp only [World.iterAt]
      rw [Array.getElem?_setIfInBounds_ne]
      intro he; exact hne (by rw [O, <- he]; rfl))
     (.inr ⟨_, rfl, rfl, rfl⟩) (fun b hb => .inl hb) (fun _ => ⟨r, .inl O, Lib.iterAt_heap w r x p _ hh⟩)
    refine ⟨_, _, _, Lib.run_next_any_at w r x p ty hh hp, g1, g2, rfl, rfl, ?_⟩
    simp only [rel]
    exact ⟨_, rfl, z0m (by simp [rel]) (z0m (by simp [rel]) (z0m (by simp [rel]) z0q))⟩
   ·rename_i hp
    simp only [Option.some.injEq, Prod.mk.injEq] at V
    obtain ⟨rfl, rfl, rfl⟩ := V
    refine ⟨_, s, w, Lib.run_next_end_at w r x p ty hh hp, Step.refl s w, h, rfl, rfl, ?_⟩
    simp only [rel]
    exact ⟨_, rfl, z0m (by simp [rel]) z0q⟩
  ·cases V
 ·cases V
theorem zdv {t : TypeId} {k : IntKind} (h : z3q P t = some k) : P.underlying t = some (.int k) := by
 unfold z3q at h
 split at h
 ·cases h; assumption
 ·cases h
theorem zmr {t : TypeId} (h : u8T P t = true) : ∃ e, P.underlying t = some (.slice e) /\ P.underlying e = some (.int .u8) := by
 unfold u8T at h
 split at h
 ·rename_i e he
  split at h
  ·rename_i hi
   exact ⟨e, z2d he, zdv hi⟩
  ·cases h
 ·cases h
theorem zg1 {s : RS} : ∀ {els : List D} {l : List UInt8} {vs : List Value}, zf7 els = some l -> relAll s els vs -> vs = l.map fun b => .int .u8 b.toNat
 | [], l, vs, h, hr => by simp only [zf7, Option.some.injEq] at h; subst h; simpa [relAll] using hr
 | d :: els, l, vs, h, hr => by
  simp only [relAll] at hr
  obtain ⟨v, r, rfl, h1, h2⟩ := hr
  unfold zf7 at h
  split at h
  ·rename_i he; cases he
  ·rename_i n l' he
   cases he
   split at h
   ·rename_i hn
    simp only [Option.map_eq_some_iff] at h
    obtain ⟨l2, h3, rfl⟩ := h
    rw [zg1 h3 h2, List.map_cons]
    simp only [rel] at h1
    rw [h1]
    congr 2
    have : n.toNat < 256 := by omega
    simp [UInt8.toNat_ofNat', Nat.mod_eq_of_lt this]
    omega
   ·cases h
  ·cases h
theorem z9l {s : RS} {α : Type} {f : α -> D} {g : α -> Value} (h : ∀ x, rel s (f x) (g x)) : ∀ (l : List α), relAll s (l.map f) (l.map g)
 | [] => z0q
 | x :: l => z0m (h x) (z9l h l)
theorem zle {s : RS} {w : World} (h : RH P s w) {src dst : TypeId} {d e : D} {v : Value} (V : zyz P src dst d = some e) (hv : rel s d v) :
  ∃ u s' w', (convert src dst v).run P w = .ok u w' /\ Step s w s' w' /\ RH P s' w' /\ s'.H = s.H /\ s'.nx = s.nx /\ rel s' e u := by
 unfold zyz at V
 split at V
 ·rename_i x
  split at V
  ·rename_i hc
   obtain ⟨hc1, hc2, hc3⟩ := hc
   cases V
   obtain ⟨el, he1, he2⟩ := zmr hc2
   simp only [rel] at hv; subst hv
   have hm : x.size <= maxLen := by unfold maxLen; omega
   have hrun := run_bytes_of_string w src dst el x (z65 hc1) he1 he2
   have hgrew : Grew w (w.drew.alloc (.cells (bytesRow x (grownCap w x.size 0 el)) el ((bytesRow x (grownCap w x.size 0 el)).size, (bytesRow x (grownCap w x.size 0 el)).size + 1))) := Grew.of_drew (Grew.alloc _ _)
   obtain ⟨g1, g2⟩ := z91 h hgrew
   refine ⟨_, _, _, hrun, g1, g2, rfl, rfl, ?_⟩
   have hbl : (zw2 x).length = x.size := by unfold zw2; rw [List.length_map]; rfl
   simp only [rel]
   refine .inr ⟨⟨w.heap.size, 0, none⟩, grownCap w x.size 0 el, x.data.toList.map fun b => .int .u8 b.toNat, by rw [hbl], by rw [hbl]; exact grownCap_ge w x.size 0 el, grownCap_le_maxLen w _ 0 el hm, ?_, fun i u hu => ?_⟩
   ·exact z9l (fun b => by simp [rel]) _
   ·rw [List.getElem?_map, Option.map_eq_some_iff] at hu
    obtain ⟨b, hb, rfl⟩ := hu
    refine ⟨rfl, fun j c hj => ?_⟩
    cases j with
    | succ j => simp [Value.cells] at hj
    | zero =>
     simp [Value.cells] at hj; subst hj
     show (s.grow w _).m _ = _
     have hi : i < x.data.size := by
      rcases Nat.lt_or_ge i x.data.size with h9 | h9
      ·exact h9
      ·rw [List.getElem?_eq_none (by simpa using h9)] at hb; cases hb
     simp only [RS.grow, z0z, Nat.mul_one, Nat.add_zero, Nat.zero_add]
     rw [if_neg (by simp)]
     have hnew : ∀ (C : Array Value) (q : Nat × Nat), (w.drew.alloc (.cells C el q)).cell? ⟨w.heap.size, i, none⟩ = C[i]? := fun C q => by
      have : (w.drew.alloc (.cells C el q)).heap[w.heap.size]? = some (.cells C el q) := heap_alloc_new w.drew _
      unfold World.cell?
      simp only [this]
      rfl
     rw [hnew]
     unfold bytesRow
     rw [Array.getElem?_append_left (by simpa using hi), Array.getElem?_map]
     rw [Array.getElem?_toList] at hb
     rw [hb]; rfl
  ·cases V
 ·rename_i nn els
  split at V
  ·rename_i hc
   obtain ⟨hc1, hc2⟩ := hc
   obtain ⟨el, he1, he2⟩ := zmr hc1
   simp only [Option.map_eq_some_iff] at V
   obtain ⟨l, hl, rfl⟩ := V
   simp only [rel] at hv
   rcases hv with ⟨_, rfl, rfl⟩ | ⟨a, cap, vs, rfl, h2, h3, h4, h5⟩
   ·simp only [zf7, Option.some.injEq] at hl; subst hl
    refine ⟨_, s, w, run_convert_bytes_nil (w := w) src el he1 he2 0 0 dst (z65 hc2), Step.refl s w, h, rfl, rfl, ?_⟩
    simp only [rel]; rfl
   ·have hvs := zg1 hl h4
    have hlen : els.length = l.length := by rw [<- z06 h4, hvs, List.length_map]
    rw [hlen]
    refine ⟨_, s, w, run_convert_bytes_back w src dst el a cap l he1 he2 (z65 hc2) (fun j hj => ?_), Step.refl s w, h, rfl, rfl, by simp only [rel]⟩
    have := h5 j (.int .u8 l[j].toNat) (by rw [hvs, List.getElem?_map, List.getElem?_eq_getElem hj]; rfl)
    have := this.2 0 (.int .u8 l[j].toNat) rfl
    simp only [Nat.mul_one] at this
    have := (h.mem _ _ this).1
    rw [<- this]
    congr 1
  ·cases V
 ·cases V
end Go.Proofs.YtppebcifiejplaaGreatDoor.Abs
