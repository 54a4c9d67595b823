import Derived.WalkKit
import Derived.Below
import Derived.Laws.AppendOwn
import Derived.Laws.Tables
import Derived.Laws.Cells
set_option linter.unusedSimpArgs false
set_option linter.unusedVariables false
/-
 An abstract layer over the model: abstract values, the relation between them and the model's values in a world, and the steps between two states. No condition.
-/
namespace Go.Proofs.YtkhjpcmpljpmjaaGreatDoor.Abs
open Go.RowKit

inductive D where
 | any
 | int (k : IntKind) (n : Int)
 | bool (b : Bool)
 | str (s : ByteArray)
 | agg (ds : List D)
 | tup (ds : List D)
 | nil
 | rsl (nn : Bool) (sz : Nat) (els : List D)
 | nptr
 | rptr (d : D)
 | nfun
 | fn (f : FuncId) (cap : List D)
 | osl (id n : Nat)
 | ptr (id off : Nat)
 | eptr (id n off : Nat)
 | mp (id : Nat)
 | nmp
 | e0
 | it (id : Nat)

inductive HObj where
 | box (e : TypeId) (cs : List D)
 | row (e : TypeId) (n : Nat) (cs : List D)
 | map (es : List (D × D))
 | raw (o : Obj)

abbrev HM := Nat → Option HObj

structure RS where
 m : Addr → Option Value
 κ : Nat → Value
 H : HM
 nx : Nat

def ones (vs : List Value) : Prop := ∀ v ∈ vs, v.oneCell' = true
def cellsAt (m : Addr → Option Value) (a : Addr) (cs : List Value) : Prop := ∀ j c, cs[j]? = some c → m (a.add j) = some c
def Lies (m : Addr → Option Value) (a : Addr) (sz : Nat) (vs : List Value) : Prop :=
 ∀ i v, vs[i]? = some v → v.cells.size = sz ∧ cellsAt m (a.add (i * sz)) v.cells.toList
def blockOf : Value → Option Nat
 | .pointer (some a) => some a.block
 | .slice (some a) _ _ => some a.block
 | .map (some r) => some r
 | _ => none

mutual
def rel (s : RS) : D → Value → Prop
 | .any, _ => True
 | .int k n, v => v = .int k n
 | .bool b, v => v = .bool b
 | .str x, v => v = .string x
 | .agg ds, v => ∃ vs : List Value, v = .agg vs.toArray ∧ relAll s ds vs ∧ ones vs
 | .tup ds, v => ∃ vs : List Value, v = .tuple vs.toArray ∧ relAll s ds vs
 | .nil, v => v = .slice none 0 0
 | .rsl nn sz els, v => (nn = false ∧ els = [] ∧ v = .slice none 0 0) ∨
   ∃ a cap vs, v = .slice (some a) els.length cap ∧ els.length ≤ cap ∧ cap ≤ maxLen ∧ relAll s els vs ∧ Lies s.m a sz vs
 | .nptr, v => v = .pointer none
 | .rptr d, v => ∃ a u, v = .pointer (some a) ∧ rel s d u ∧ cellsAt s.m a u.cells.toList
 | .nfun, v => v = .nilFunc
 | .fn f cap, v => ∃ vs : List Value, v = .func (.func f) #[] vs.toArray ∧ relAll s cap vs
 | .osl id n, v => id < s.nx ∧ (∃ a c, v = .slice a n c) ∧ ∀ e k cs, s.H id = some (.row e k cs) → n ≤ k ∧ (n = k → v = s.κ id)
 | .ptr id off, v => id < s.nx ∧ (∃ a, v = .pointer (some a)) ∧ ∀ e cs, s.H id = some (.box e cs) → ∃ b, s.κ id = .pointer (some ⟨b, 0, none⟩) ∧ v = .pointer (some ⟨b, off, none⟩)
 | .eptr id n off, v => id < s.nx ∧ (∃ a, v = .pointer (some a)) ∧ ∀ e k cs, s.H id = some (.row e k cs) → n ≤ k ∧ (n = k → ∃ b, blockOf (s.κ id) = some b ∧ v = .pointer (some ⟨b, off, none⟩))
 | .mp id, v => id < s.nx ∧ (∃ r, v = .map (some r)) ∧ ∀ es, s.H id = some (.map es) → v = s.κ id
 | .nmp, v => v = .map none
 | .e0, v => ∃ a, v = .slice (some a) 0 0
 | .it id, v => id < s.nx ∧ (∃ a, v = .pointer (some a)) ∧ ∀ o, s.H id = some (.raw o) → v = s.κ id
def relAll (s : RS) : List D → List Value → Prop
 | [], vs => vs = []
 | d :: ds, vs => ∃ v r, vs = v :: r ∧ rel s d v ∧ relAll s ds r
end

theorem relAll_length {s : RS} : ∀ {ds : List D} {vs : List Value}, relAll s ds vs → vs.length = ds.length
 | [], vs, h => by simp [relAll] at h; simp [h]
 | d :: ds, vs, h => by
  obtain ⟨v, r, rfl, _, h2⟩ := (by simpa only [relAll] using h : ∃ v r, vs = v :: r ∧ rel s d v ∧ relAll s ds r)
  simp [relAll_length h2]
theorem relAll_cons {s : RS} {d : D} {ds : List D} {v : Value} {r : List Value} (h : rel s d v) (hr : relAll s ds r) : relAll s (d :: ds) (v :: r) := by
 simp only [relAll]; exact ⟨v, r, rfl, h, hr⟩
theorem relAll_nil {s : RS} : relAll s [] [] := by simp [relAll]
theorem relAll_get {s : RS} : ∀ {ds : List D} {vs : List Value}, relAll s ds vs → ∀ (i : Nat) (d : D), ds[i]? = some d → ∃ v, vs[i]? = some v ∧ rel s d v
 | [], vs, h, i, d, hd => by simp at hd
 | d0 :: ds, vs, h, i, d, hd => by
  obtain ⟨v, r, rfl, h1, h2⟩ := (by simpa only [relAll] using h : ∃ v r, vs = v :: r ∧ rel s d0 v ∧ relAll s ds r)
  cases i with
  | zero => simp at hd; subst hd; exact ⟨v, by simp, h1⟩
  | succ i =>
   obtain ⟨u, hu, hr⟩ := relAll_get h2 i d (by simpa using hd)
   exact ⟨u, by simpa using hu, hr⟩
theorem relAll_of {s : RS} : ∀ {ds : List D} {vs : List Value}, vs.length = ds.length → (∀ (i : Nat) d v, ds[i]? = some d → vs[i]? = some v → rel s d v) → relAll s ds vs
 | [], vs, hl, _ => by
  have : vs = [] := List.eq_nil_of_length_eq_zero (by simpa using hl)
  subst this; exact relAll_nil
 | d :: ds, [], hl, _ => by simp at hl
 | d :: ds, v :: vs, hl, h => relAll_cons (h 0 d v (by simp) (by simp)) (relAll_of (by simpa using hl) fun i d' v' h1 h2 => h (i + 1) d' v' (by simpa using h1) (by simpa using h2))
theorem relAll_append {s : RS} : ∀ {ds es : List D} {vs us : List Value}, relAll s ds vs → relAll s es us → relAll s (ds ++ es) (vs ++ us)
 | [], es, vs, us, h, h' => by simp [relAll] at h; subst h; simpa using h'
 | d :: ds, es, vs, us, h, h' => by
  obtain ⟨v, r, rfl, h1, h2⟩ := (by simpa only [relAll] using h : ∃ v r, vs = v :: r ∧ rel s d v ∧ relAll s ds r)
  exact relAll_cons h1 (relAll_append h2 h')
theorem relAll_take {s : RS} (n : Nat) {ds : List D} {vs : List Value} (h : relAll s ds vs) : relAll s (ds.take n) (vs.take n) := by
 refine relAll_of (by simp [relAll_length h]) fun i d v hd hv => ?_
 simp only [List.getElem?_take] at hd hv
 split at hd
 ·rename_i hi
  rw [if_pos hi] at hv
  obtain ⟨u, hu, hr⟩ := relAll_get h i d hd
  rw [hu] at hv; cases hv; exact hr
 ·cases hd
theorem relAll_drop {s : RS} (n : Nat) {ds : List D} {vs : List Value} (h : relAll s ds vs) : relAll s (ds.drop n) (vs.drop n) := by
 refine relAll_of (by simp [relAll_length h]) fun i d v hd hv => ?_
 simp only [List.getElem?_drop] at hd hv
 obtain ⟨u, hu, hr⟩ := relAll_get h _ d hd
 rw [hu] at hv; cases hv; exact hr
theorem relAll_set {s : RS} {ds : List D} {vs : List Value} (h : relAll s ds vs) (n : Nat) {d : D} {v : Value} (hd : rel s d v) : relAll s (ds.set n d) (vs.set n v) := by
 refine relAll_of (by simp [relAll_length h]) fun i d' v' h1 h2 => ?_
 simp only [List.getElem?_set] at h1 h2
 have hlen := relAll_length h
 split at h1
 ·rename_i hn
  subst hn
  rw [if_pos rfl] at h2
  split at h1
  ·rename_i hl
   rw [if_pos (by omega)] at h2
   cases h1; cases h2; exact hd
  ·cases h1
 ·rename_i hn
  rw [if_neg hn] at h2
  obtain ⟨u, hu, hr⟩ := relAll_get h i d' h1
  rw [hu] at h2; cases h2; exact hr

def owned (s : RS) (k : Nat) : Prop := ∃ id, id < s.nx ∧ s.H id ≠ none ∧ blockOf (s.κ id) = some k

def objLe (o o' : Option HObj) (v v' : Value) : Prop :=
 match o with
 | none => o' = none
 | some (.box e _) => o' = none ∨ ∃ cs', o' = some (.box e cs') ∧ v' = v
 | some (.row e n _) => o' = none ∨ ∃ n' cs', o' = some (.row e n' cs') ∧ n ≤ n' ∧ (n = n' → v' = v)
 | some (.map _) => o' = none ∨ ∃ es', o' = some (.map es') ∧ v' = v
 | some (.raw _) => o' = none ∨ ∃ q', o' = some (.raw q') ∧ v' = v

theorem objLe.refl (o : Option HObj) (v : Value) : objLe o o v v := by
 unfold objLe
 cases o with
 | none => rfl
 | some o => cases o <;> simp
theorem objLe.trans {o o' o'' : Option HObj} {v v' v'' : Value} (h : objLe o o' v v') (h' : objLe o' o'' v' v'') : objLe o o'' v v'' := by
 unfold objLe at *
 cases o with
 | none => simp only at h; subst h; simpa using h'
 | some o =>
  cases o with
  | box e cs =>
   rcases h with h | ⟨cs', h, hv⟩
   ·subst h; exact .inl (by simpa using h')
   ·subst h
    rcases h' with h' | ⟨cs'', h', hv'⟩
    ·exact .inl h'
    ·exact .inr ⟨cs'', h', hv'.trans hv⟩
  | row e n cs =>
   rcases h with h | ⟨n', cs', h, hn, hv⟩
   ·subst h; exact .inl (by simpa using h')
   ·subst h
    rcases h' with h' | ⟨n'', cs'', h', hn', hv'⟩
    ·exact .inl h'
    ·exact .inr ⟨n'', cs'', h', by omega, fun e => (hv' (by omega)).trans (hv (by omega))⟩
  | map es =>
   rcases h with h | ⟨es', h, hv⟩
   ·subst h; exact .inl (by simpa using h')
   ·subst h
    rcases h' with h' | ⟨es'', h', hv'⟩
    ·exact .inl h'
    ·exact .inr ⟨es'', h', hv'.trans hv⟩
  | raw q =>
   rcases h with h | ⟨es', h, hv⟩
   ·subst h; exact .inl (by simpa using h')
   ·subst h
    rcases h' with h' | ⟨es'', h', hv'⟩
    ·exact .inl h'
    ·exact .inr ⟨es'', h', hv'.trans hv⟩

structure Step (s : RS) (w : World) (s' : RS) (w' : World) : Prop where
 os : w'.os = w.os
 tape : w'.tape = w.tape
 output : w'.output = w.output
 size : w.heap.size ≤ w'.heap.size
 nx : s.nx ≤ s'.nx
 mem : ∀ a v, s.m a = some v → s'.m a = some v
 new : ∀ a v, s'.m a = some v → s.m a = some v ∨ w.heap.size ≤ a.block ∨ owned s a.block
 objs : ∀ id, id < s.nx → objLe (s.H id) (s'.H id) (s.κ id) (s'.κ id)
 keep : ∀ k, k < w.heap.size → ¬ owned s k → w'.heap[k]? = w.heap[k]?
 own : ∀ k, owned s' k → owned s k ∨ w.heap.size ≤ k

theorem Step.refl (s : RS) (w : World) : Step s w s w :=
 ⟨rfl, rfl, rfl, Nat.le_refl _, Nat.le_refl _, fun _ _ h => h, fun _ _ h => .inl h, fun _ _ => objLe.refl _ _, fun _ _ _ => rfl, fun _ h => .inl h⟩
theorem Step.trans {s s' s'' : RS} {w w' w'' : World} (h : Step s w s' w') (h' : Step s' w' s'' w'') : Step s w s'' w'' := by
 refine ⟨h'.os.trans h.os, h'.tape.trans h.tape, h'.output.trans h.output, Nat.le_trans h.size h'.size, Nat.le_trans h.nx h'.nx,
  fun a v hm => h'.mem a v (h.mem a v hm), fun a v hm => ?_, fun id hid => (h.objs id hid).trans (h'.objs id (Nat.lt_of_lt_of_le hid h.nx)),
  fun k hk ho => ?_, fun k ho => ?_⟩
 ·rcases h'.new a v hm with h1 | h1 | h1
  ·exact h.new a v h1
  ·exact .inr (.inl (Nat.le_trans h.size h1))
  ·rcases h.own _ h1 with h2 | h2
   ·exact .inr (.inr h2)
   ·exact .inr (.inl h2)
 ·rw [h'.keep k (Nat.lt_of_lt_of_le hk h.size) (fun h1 => by
   rcases h.own k h1 with h2 | h2
   ·exact ho h2
   ·omega)]
  exact h.keep k hk ho
 ·rcases h'.own k ho with h1 | h1
  ·exact h.own k h1
  ·exact .inr (Nat.le_trans h.size h1)

structure Later (s s' : RS) : Prop where
 nx : s.nx ≤ s'.nx
 mem : ∀ a v, s.m a = some v → s'.m a = some v
 objs : ∀ id, id < s.nx → objLe (s.H id) (s'.H id) (s.κ id) (s'.κ id)
theorem Step.later {s s' : RS} {w w' : World} (h : Step s w s' w') : Later s s' := ⟨h.nx, h.mem, h.objs⟩
theorem cellsAt.later {m m' : Addr → Option Value} (hm : ∀ a v, m a = some v → m' a = some v) {a : Addr} {cs : List Value} (h : cellsAt m a cs) : cellsAt m' a cs :=
 fun j c hc => hm _ _ (h j c hc)

mutual
theorem rel.later {s s' : RS} (h : Later s s') : ∀ (d : D) (v : Value), rel s d v → rel s' d v
 | .any, _, _ => by simp [rel]
 | .int k n, v, hr => by simpa [rel] using hr
 | .bool b, v, hr => by simpa [rel] using hr
 | .str x, v, hr => by simpa [rel] using hr
 | .agg ds, v, hr => by
  simp only [rel] at hr ⊢
  obtain ⟨vs, h1, h2, h3⟩ := hr
  exact ⟨vs, h1, relAll.later h ds vs h2, h3⟩
 | .tup ds, v, hr => by
  simp only [rel] at hr ⊢
  obtain ⟨vs, h1, h2⟩ := hr
  exact ⟨vs, h1, relAll.later h ds vs h2⟩
 | .nil, v, hr => by simpa [rel] using hr
 | .rsl nn sz els, v, hr => by
  simp only [rel] at hr ⊢
  rcases hr with hr | ⟨a, cap, vs, h1, h2, h3, h4, h5⟩
  ·exact .inl hr
  ·exact .inr ⟨a, cap, vs, h1, h2, h3, relAll.later h els vs h4, fun i u hu => ⟨(h5 i u hu).1, (h5 i u hu).2.later h.mem⟩⟩
 | .nptr, v, hr => by simpa [rel] using hr
 | .rptr d, v, hr => by
  simp only [rel] at hr ⊢
  obtain ⟨a, u, h1, h2, h3⟩ := hr
  exact ⟨a, u, h1, rel.later h d u h2, h3.later h.mem⟩
 | .nfun, v, hr => by simpa [rel] using hr
 | .fn f cap, v, hr => by
  simp only [rel] at hr ⊢
  obtain ⟨vs, h1, h2⟩ := hr
  exact ⟨vs, h1, relAll.later h cap vs h2⟩
 | .osl id n, v, hr => by
  simp only [rel] at hr ⊢
  obtain ⟨h1, h0, h2⟩ := hr
  refine ⟨Nat.lt_of_lt_of_le h1 h.nx, h0, fun e k cs hH => ?_⟩
  have ho := h.objs id h1
  unfold objLe at ho
  cases hs : s.H id with
  | none => rw [hs] at ho; simp only at ho; rw [ho] at hH; cases hH
  | some o =>
   rw [hs] at ho
   cases o with
   | box e' cs' => rcases ho with ho | ⟨x, ho, _⟩ <;> rw [ho] at hH <;> cases hH
   | map es => rcases ho with ho | ⟨x, ho, _⟩ <;> rw [ho] at hH <;> cases hH
   | raw q => rcases ho with ho | ⟨x, ho, _⟩ <;> rw [ho] at hH <;> cases hH
   | row e' n' cs' =>
    rcases ho with ho | ⟨n'', cs'', ho, hn, hv⟩
    ·rw [ho] at hH; cases hH
    ·rw [ho] at hH; cases hH
     obtain ⟨h3, h4⟩ := h2 _ _ _ hs
     exact ⟨by omega, fun e => by rw [hv (by omega)]; exact h4 (by omega)⟩
 | .ptr id off, v, hr => by
  simp only [rel] at hr ⊢
  obtain ⟨h1, h0, h2⟩ := hr
  refine ⟨Nat.lt_of_lt_of_le h1 h.nx, h0, fun e cs hH => ?_⟩
  have ho := h.objs id h1
  unfold objLe at ho
  cases hs : s.H id with
  | none => rw [hs] at ho; simp only at ho; rw [ho] at hH; cases hH
  | some o =>
   rw [hs] at ho
   cases o with
   | row e' n' cs' => rcases ho with ho | ⟨_, x, ho, _⟩ <;> rw [ho] at hH <;> cases hH
   | map es => rcases ho with ho | ⟨x, ho, _⟩ <;> rw [ho] at hH <;> cases hH
   | raw q => rcases ho with ho | ⟨x, ho, _⟩ <;> rw [ho] at hH <;> cases hH
   | box e' cs' =>
    rcases ho with ho | ⟨cs'', ho, hv⟩
    ·rw [ho] at hH; cases hH
    ·rw [ho] at hH; cases hH
     obtain ⟨b, h3, h4⟩ := h2 _ _ hs
     exact ⟨b, by rw [hv]; exact h3, h4⟩
 | .eptr id n off, v, hr => by
  simp only [rel] at hr ⊢
  obtain ⟨h1, h0, h2⟩ := hr
  refine ⟨Nat.lt_of_lt_of_le h1 h.nx, h0, fun e k cs hH => ?_⟩
  have ho := h.objs id h1
  unfold objLe at ho
  cases hs : s.H id with
  | none => rw [hs] at ho; simp only at ho; rw [ho] at hH; cases hH
  | some o =>
   rw [hs] at ho
   cases o with
   | box e' cs' => rcases ho with ho | ⟨x, ho, _⟩ <;> rw [ho] at hH <;> cases hH
   | map es => rcases ho with ho | ⟨x, ho, _⟩ <;> rw [ho] at hH <;> cases hH
   | raw q => rcases ho with ho | ⟨x, ho, _⟩ <;> rw [ho] at hH <;> cases hH
   | row e' n' cs' =>
    rcases ho with ho | ⟨n'', cs'', ho, hn, hv⟩
    ·rw [ho] at hH; cases hH
    ·rw [ho] at hH; cases hH
     obtain ⟨h3, h4⟩ := h2 _ _ _ hs
     exact ⟨by omega, fun e => by rw [hv (by omega)]; exact h4 (by omega)⟩
 | .mp id, v, hr => by
  simp only [rel] at hr ⊢
  obtain ⟨h1, h0, h2⟩ := hr
  refine ⟨Nat.lt_of_lt_of_le h1 h.nx, h0, fun es hH => ?_⟩
  have ho := h.objs id h1
  unfold objLe at ho
  cases hs : s.H id with
  | none => rw [hs] at ho; simp only at ho; rw [ho] at hH; cases hH
  | some o =>
   rw [hs] at ho
   cases o with
   | row e' n' cs' => rcases ho with ho | ⟨_, x, ho, _⟩ <;> rw [ho] at hH <;> cases hH
   | box e' cs' => rcases ho with ho | ⟨x, ho, _⟩ <;> rw [ho] at hH <;> cases hH
   | raw q => rcases ho with ho | ⟨x, ho, _⟩ <;> rw [ho] at hH <;> cases hH
   | map es' =>
    rcases ho with ho | ⟨es'', ho, hv⟩
    ·rw [ho] at hH; cases hH
    ·rw [ho] at hH; cases hH
     rw [hv]; exact h2 _ hs
 | .nmp, v, hr => by simpa [rel] using hr
 | .e0, v, hr => by simpa [rel] using hr
 | .it id, v, hr => by
  simp only [rel] at hr ⊢
  obtain ⟨h1, h0, h2⟩ := hr
  refine ⟨Nat.lt_of_lt_of_le h1 h.nx, h0, fun q hH => ?_⟩
  have ho := h.objs id h1
  unfold objLe at ho
  cases hs : s.H id with
  | none => rw [hs] at ho; simp only at ho; rw [ho] at hH; cases hH
  | some o =>
   rw [hs] at ho
   cases o with
   | row e' n' cs' => rcases ho with ho | ⟨_, x, ho, _⟩ <;> rw [ho] at hH <;> cases hH
   | box e' cs' => rcases ho with ho | ⟨x, ho, _⟩ <;> rw [ho] at hH <;> cases hH
   | map es => rcases ho with ho | ⟨x, ho, _⟩ <;> rw [ho] at hH <;> cases hH
   | raw q' =>
    rcases ho with ho | ⟨q'', ho, hv⟩
    ·rw [ho] at hH; cases hH
    ·rw [ho] at hH; cases hH
     rw [hv]; exact h2 _ hs
theorem relAll.later {s s' : RS} (h : Later s s') : ∀ (ds : List D) (vs : List Value), relAll s ds vs → relAll s' ds vs
 | [], vs, hr => by simpa [relAll] using hr
 | d :: ds, vs, hr => by
  simp only [relAll] at hr ⊢
  obtain ⟨v, r, h1, h2, h3⟩ := hr
  exact ⟨v, r, h1, rel.later h d v h2, relAll.later h ds r h3⟩
end

def sizeT (P : Program) (t : TypeId) : Nat := ((P.info? t).map (·.size)).getD 0

def objOK (P : Program) (s : RS) (w : World) (v : Value) : HObj → Prop
 | .box e cs => ∃ b vs, v = .pointer (some ⟨b, 0, none⟩) ∧ w.heap[b]? = some (.cells (List.toArray vs) e (0, 0)) ∧ relAll s cs vs ∧ ones vs
 | .row e n cs => ∃ vs, w.ownsRow 0 e (sizeT P e) v n vs ∧ relAll s cs vs ∧ ones vs
 | .map es => ∃ (r : Nat) (ens : Array MapEntry) (clock : Nat), v = .map (some r) ∧ w.heap[r]? = some (.map ens clock) ∧
   relAll s (es.map (·.1)) (ens.toList.map (·.key)) ∧ relAll s (es.map (·.2)) (ens.toList.map (·.val))
 | .raw o => ∃ r, v = .pointer (some ⟨r, 0, none⟩) ∧ w.heap[r]? = some o

def pureD : D → Bool
 | .osl .. | .ptr .. | .eptr .. | .mp _ | .it _ => false
 | .agg ds => pureL ds
 | .tup ds => pureL ds
 | .rsl _ _ els => pureL els
 | .rptr d => pureD d
 | .fn _ cap => pureL cap
 | _ => true
where pureL : List D → Bool
 | [] => true
 | d :: ds => pureD d && pureL ds
def globD : Nat → D
 | 0 => .rptr (.agg [.rsl true 1 [.int .i64 1, .int .i64 2], .rsl true 1 [.int .i64 2], .rsl true 1 [.int .i64 3, .int .i64 4, .int .i64 7], .rsl true 1 [.int .i64 3, .int .i64 4, .int .i64 7], .rsl true 1 [.int .i64 5], .rsl true 1 [.int .i64 6], .nil, .nil])
 | 1 => .rptr (.agg [.str ⟨#[98, 111, 111, 107]⟩, .str ⟨#[112, 97, 114, 116]⟩, .str ⟨#[115, 101, 99, 116, 105, 111, 110]⟩, .str ⟨#[112, 97, 114, 97, 103, 114, 97, 112, 104]⟩, .str ⟨#[116, 97, 98, 108, 101]⟩, .str ⟨#[114, 111, 119]⟩, .str ⟨#[99, 101, 108, 108]⟩, .str ⟨#[110, 111, 116, 101]⟩])
 | _ => .any
theorem pure_globD (g : Nat) : pureD (globD g) = true := by unfold globD; split <;> rfl
structure RH (P : Program) (s : RS) (w : World) : Prop where
 mem : ∀ a v, s.m a = some v → w.cell? a = some v ∧ ¬ owned s a.block
 obj : ∀ id o, s.H id = some o → id < s.nx ∧ objOK P s w (s.κ id) o
 apart : ∀ i j, s.H i ≠ none → s.H j ≠ none → i ≠ j → blockOf (s.κ i) ≠ none → blockOf (s.κ i) ≠ blockOf (s.κ j)
 glob : ∀ g, rel s (globD g) (.pointer (some ⟨g, 0, none⟩))

end Go.Proofs.YtkhjpcmpljpmjaaGreatDoor.Abs
/-
 The abstract operations: what each operation of the model does to abstract values. No condition.
-/
namespace Go.Proofs.YtkhjpcmpljpmjaaGreatDoor.Abs
open Go.RowKit

structure St where
 t : Nat → D
 H : HM
 nx : Nat

def updH (H : HM) (id : Nat) (o : Option HObj) : HM := fun j => if j = id then o else H j
def updT (t : Nat → D) (i : Nat) (d : D) : Nat → D := fun j => if j = i then d else t j
def St.put (st : St) (dst : Option Nat) (d : D) : St :=
 match dst with
 | some i => { st with t := updT st.t i d }
 | none => st

def ofCell : Value → D
 | .int k n => .int k n
 | .bool b => .bool b
 | .string s => .str s
 | .slice none 0 0 => .nil
 | .pointer none => .nptr
 | .nilFunc => .nfun
 | .map none => .nmp
 | _ => .any
def ofVal : Value → D
 | .agg cs => if cs.toList.all (·.oneCell') then .agg (cs.toList.map ofCell) else .any
 | v => ofCell v

def St.ev (st : St) : Operand → D
 | .tmp t => st.t t
 | .const v => ofVal v
 | .global g => globD g
 | .func f => .fn f []

def isAggT (P : Program) (t : TypeId) : Bool :=
 match P.underlying t with
 | some (.struct _) | some (.array _ _) => true
 | _ => false
def isOneT (P : Program) (t : TypeId) : Bool :=
 match P.underlying t with
 | some (.struct _) | some (.array _ _) | none => false
 | _ => true
def elemT (P : Program) (t : TypeId) : Option TypeId :=
 match P.underlying t with
 | some (.slice e) => some e
 | _ => none
def arrT (P : Program) (t : TypeId) : Option (Nat × TypeId) :=
 match P.underlying t with
 | some (.array n e) => some (n, e)
 | _ => none
def fieldT (P : Program) (t : TypeId) (f : Nat) : Option (Nat × TypeId) :=
 match P.underlying t with
 | some (.struct fs) => (fs[f]?).map fun x => (x.offset, x.type)
 | _ => none
def intT (P : Program) (t : TypeId) : Option IntKind :=
 match P.underlying t with
 | some (.int k) => some k
 | _ => none
def fieldsOK (P : Program) (t : TypeId) : Bool :=
 match P.underlying t with
 | some (.struct fs) => fs.toList.all fun f => (P.info? f.type).isSome
 | _ => false
def strT (P : Program) (t : TypeId) : Bool :=
 match P.underlying t with
 | some .string => true
 | _ => false
def boolT (P : Program) (t : TypeId) : Bool :=
 match P.underlying t with
 | some .bool => true
 | _ => false
def mapT (P : Program) (t : TypeId) : Option (TypeId × TypeId) :=
 match P.underlying t with
 | some (.map k e) => some (k, e)
 | _ => none
def hasZero (P : Program) (t : TypeId) : Bool := ((P.info? t).bind (·.zero)).any fun z => z.cells.size == sizeT P t
def bytesT (P : Program) (t : TypeId) : Nat := ((P.info? t).map (·.bytes)).getD 0
def zeroT (P : Program) (t : TypeId) : Option (List D) :=
 ((P.info? t).bind (·.zero)).bind fun v => if v.cells.size = sizeT P t ∧ v.cells.toList.all (·.oneCell') then some (v.cells.toList.map ofCell) else none

def cellsD : D → Option (List D)
 | .agg ds => some ds
 | .any | .tup _ => none
 | d => some [d]
def takeD (P : Program) (t : TypeId) (cs : List D) (off : Nat) : Option D :=
 if isAggT P t = true then (if off + sizeT P t ≤ cs.length then some (.agg ((cs.drop off).take (sizeT P t))) else none) else if isOneT P t = true then cs[off]? else none
def fitsD (P : Program) (t : TypeId) : D → Bool
 | .agg ds => isAggT P t && ds.length == sizeT P t
 | .any | .tup _ => false
 | _ => isOneT P t

def loadD (P : Program) (H : HM) (t : TypeId) : D → Option D
 | .ptr id off => match H id with
  | some (.box _ cs) => takeD P t cs off
  | _ => none
 | .eptr id n off => match H id with
  | some (.row _ k cs) => if n = k then takeD P t cs off else none
  | _ => none
 | .rptr d => if fitsD P t d = true then some d else none
 | _ => none

def splice {α : Type} : List α → Nat → List α → List α
 | cs, _, [] => cs
 | cs, off, v :: vs => splice (cs.set off v) (off + 1) vs

def storeD (P : Program) (H : HM) (t : TypeId) (p v : D) : Option HM :=
 match cellsD v with
 | some vs => if vs.length = sizeT P t ∧ 0 < vs.length then
   (match p with
   | .ptr id off => match H id with
    | some (.box e cs) => if off + vs.length ≤ cs.length then some (updH H id (some (.box e (splice cs off vs)))) else none
    | _ => none
   | .eptr id n off => match H id with
    | some (.row e k cs) => if n = k ∧ off + vs.length ≤ cs.length then some (updH H id (some (.row e k (splice cs off vs)))) else none
    | _ => none
   | _ => none) else none
 | none => none

def fieldAddrD (P : Program) (s : TypeId) (p : D) (f : Nat) : Option D :=
 match fieldT P s f with
 | some (o, t) => if sizeT P t = 0 then none else
  match p with
  | .ptr id off => some (.ptr id (off + o))
  | .eptr id n off => some (.eptr id n (off + o))
  | .rptr (.agg ds) => (takeD P t ds o).map .rptr
  | _ => none
 | none => none

def idxD (els : List D) (i : Int) : Option D := if 0 ≤ i ∧ i < els.length then els[i.toNat]? else none

def indexAddrD (P : Program) (H : HM) (t : TypeId) (x i : D) : Option D :=
 match elemT P t with
 | some e =>
  match x, i with
  | .rsl _ sz els, .int _ i => if sz = sizeT P e ∧ sizeT P e ≠ 0 then (idxD els i).map .rptr else none
  | .osl id n, .int _ i => match H id with
   | some (.row e' k _) => if e' = e ∧ n = k ∧ sizeT P e ≠ 0 ∧ 0 ≤ i ∧ i < n then some (.eptr id n (i.toNat * sizeT P e)) else none
   | _ => none
  | _, _ => none
 | none =>
  match arrT P t with
  | some (len, e) =>
   match x, i with
   | .ptr id off, .int _ i => if sizeT P e ≠ 0 ∧ 0 ≤ i ∧ i < len then some (.ptr id (off + i.toNat * sizeT P e)) else none
   | .eptr id n off, .int _ i => if sizeT P e ≠ 0 ∧ 0 ≤ i ∧ i < len then some (.eptr id n (off + i.toNat * sizeT P e)) else none
   | .rptr (.agg ds), .int _ i => if sizeT P e ≠ 0 ∧ 0 ≤ i ∧ i < len then (takeD P e ds (i.toNat * sizeT P e)).map .rptr else none
   | _, _ => none
  | none => none

def indexD (P : Program) (t : TypeId) (x i : D) : Option D :=
 match arrT P t, x, i with
 | some (len, e), .agg ds, .int _ i => if sizeT P e ≠ 0 ∧ 0 ≤ i ∧ i < len then takeD P e ds (i.toNat * sizeT P e) else none
 | none, .str s, .int _ i => if strT P t = true ∧ 0 ≤ i then (s[i.toNat]?).map fun b => .int .u8 b.toNat else none
 | _, _, _ => none

def boundD (dflt : Nat) : Option D → Option Int
 | none => some dflt
 | some (.int _ i) => some i
 | _ => none
def sliceD (P : Program) (t : TypeId) (x : D) (lo hi : Option D) : Option D :=
 match elemT P t with
 | some e =>
  match x with
  | .rsl nn sz els => (boundD 0 lo).bind fun l => (boundD els.length hi).bind fun h => if sz = sizeT P e ∧ sizeT P e ≠ 0 ∧ 0 ≤ l ∧ l ≤ h ∧ h ≤ els.length then some (.rsl nn sz ((els.take h.toNat).drop l.toNat)) else none
  | .nil => (boundD 0 lo).bind fun l => (boundD 0 hi).bind fun h => if sizeT P e ≠ 0 ∧ l = 0 ∧ h = 0 then some .nil else none
  | _ => none
 | none => match x with
  | .str s => (boundD 0 lo).bind fun l => (boundD s.size hi).bind fun h => if strT P t = true ∧ 0 ≤ l ∧ l ≤ h ∧ h ≤ s.size then some (.str (s.extract l.toNat h.toNat)) else none
  | _ => none

def fillD (place : Nat → Option (Nat × Nat)) : List D → List (Nat × D) → Option (List D)
 | cells, [] => some cells
 | cells, (i, v) :: rest =>
  match place i, cellsD v with
  | some (off, size), some vs => if vs.length = size ∧ off + vs.length ≤ cells.length then fillD place (splice cells off vs) rest else none
  | _, _ => none
def buildD (P : Program) (t : TypeId) (parts : List (Nat × D)) : Option D :=
 match zeroT P t with
 | some zs =>
  match P.underlying t with
  | some (.struct _) => if fieldsOK P t = true then (fillD (fun i => (fieldT P t i).map fun (o, ft) => (o, sizeT P ft)) zs parts).map .agg else none
  | some (.array _ e) => if sizeT P e ≠ 0 then (fillD (fun i => some (i * sizeT P e, sizeT P e)) zs parts).map .agg else none
  | _ => none
 | none => none

def cellsAll (n : Nat) : List D → Option (List D)
 | [] => some []
 | d :: ds => match cellsD d, cellsAll n ds with
  | some c, some r => if c.length = n then some (c ++ r) else none
  | _, _ => none

def eqFieldsD (eq : TypeId → D → D → Option Bool) (P : Program) (xs ys : List D) : List Field → Option Bool
 | [] => some true
 | f :: fs =>
  if f.name ≠ "_" then
   match takeD P f.type xs f.offset, takeD P f.type ys f.offset with
   | some a, some b => match eq f.type a b with
    | some r => if r = true then eqFieldsD eq P xs ys fs else some false
    | none => none
   | _, _ => none
  else eqFieldsD eq P xs ys fs
def eqD (P : Program) : Nat → TypeId → D → D → Option Bool
 | 0, _, _, _ => none
 | d + 1, t, x, y =>
  match P.underlying t, x, y with
  | some .bool, .bool a, .bool b => some (a == b)
  | some (.int _), .int k a, .int k' b => if k = k' then some (a == b) else none
  | some .string, .str a, .str b => some (decide (a = b))
  | some (.struct fs), .agg xs, .agg ys => if P.stoodInHeld t = false then eqFieldsD (eqD P d) P xs ys fs.toList else none
  | _, _, _ => none

def cmpInt (op : BinOp) (x y : Int) : Option Bool :=
 match op with
 | .eql => some (decide (x = y))
 | .neq => some (decide (x ≠ y))
 | .lss => some (decide (x < y))
 | .leq => some (decide (x ≤ y))
 | .gtr => some (decide (y < x))
 | .geq => some (decide (y ≤ x))
 | _ => none
def bitsD (op : BinOp) (k : IntKind) (x y : Int) : Option Int :=
 let a := BitVec.ofInt k.bits x
 let b := BitVec.ofInt k.bits y
 match op with
 | .and => some (k.wrap (a &&& b).toNat)
 | .or => some (k.wrap (a ||| b).toNat)
 | .xor => some (k.wrap (a ^^^ b).toNat)
 | .andNot => some (k.wrap (a &&& ~~~b).toNat)
 | _ => none
def isNilD : D → Option Bool
 | .nil => some true
 | .rsl true _ _ => some false
 | .rsl _ _ (_ :: _) => some false
 | .nptr => some true
 | .rptr _ => some false
 | .nmp => some true
 | _ => none
def binD (P : Program) (op : BinOp) (t : TypeId) : D → D → Option D
 | .int k a, .int k' b =>
  match op with
  | .shl => if 0 ≤ b then some (.int k (k.wrap (a * 2 ^ (min b.toNat k.bits)))) else none
  | .shr => if 0 ≤ b then some (.int k (a.fdiv (2 ^ (min b.toNat k.bits)))) else none
  | .add => if k = k' then some (.int k (k.wrap (a + b))) else none
  | .sub => if k = k' then some (.int k (k.wrap (a - b))) else none
  | .mul => if k = k' then some (.int k (k.wrap (a * b))) else none
  | .quo => if k = k' ∧ b ≠ 0 then some (.int k (k.wrap (a.tdiv b))) else none
  | .rem => if k = k' ∧ b ≠ 0 then some (.int k (a.tmod b)) else none
  | .and | .or | .xor | .andNot => if k = k' then (bitsD op k a b).map (.int k) else none
  | _ => if k = k' then (cmpInt op a b).map .bool else none
 | .bool a, .bool b =>
  match op with
  | .eql => if boolT P t = true then some (.bool (a == b)) else none
  | .neq => if boolT P t = true then some (.bool (a != b)) else none
  | _ => none
 | .str a, .str b =>
  match op with
  | .eql => some (.bool (decide (a = b)))
  | .neq => some (.bool (decide (a ≠ b)))
  | .lss => some (.bool (Op.bytesLess a.toList b.toList))
  | .add => if a.size + b.size ≤ 9223372036854775807 then some (.str (a ++ b)) else none
  | _ => none
 | .agg a, .agg b =>
  match op with
  | .eql => if P.eqGuardType P.depth t = false then (eqD P 8 t (.agg a) (.agg b)).map .bool else none
  | .neq => if P.eqGuardType P.depth t = false then (eqD P 8 t (.agg a) (.agg b)).map fun r => .bool (!r) else none
  | _ => none
 | x, .nil =>
  match elemT P t, op with
  | some _, .eql => match x with
   | .nil | .rsl _ _ _ => (isNilD x).map .bool
   | _ => none
  | some _, .neq => match x with
   | .nil | .rsl _ _ _ => (isNilD x).map fun r => .bool (!r)
   | _ => none
  | _, _ => none
 | _, _ => none

def unD (op : UnOp) : D → Option D
 | .bool b => match op with
  | .not => some (.bool (!b))
  | _ => none
 | .int k n => match op with
  | .neg => some (.int k (k.wrap (0 - n)))
  | _ => none
 | _ => none

def lenD (P : Program) (H : HM) (t : TypeId) : D → Option D
 | .rsl _ _ els => (elemT P t).map fun _ => .int .i64 els.length
 | .nil => (elemT P t).map fun _ => .int .i64 0
 | .osl _ n => (elemT P t).map fun _ => .int .i64 n
 | .mp id => match H id with
  | some (.map es) => (mapT P t).map fun _ => .int .i64 es.length
  | _ => none
 | .str s => if strT P t = true then some (.int .i64 s.size) else none
 | _ => none
def leafT (P : Program) (t : TypeId) : Bool :=
 match P.underlying t with
 | some (.int _) | some .string | some .bool => true
 | _ => false
def tilesK (P : Program) : List Field → Nat → Nat → Bool
 | [], off, n => off == n
 | f :: fs, off, n => f.offset == off && decide (f.name ≠ "_") && leafT P f.type && sizeT P f.type == 1 && tilesK P fs (off + 1) n
def keyT (P : Program) (t : TypeId) : Bool :=
 match P.underlying t with
 | some (.int _) => true
 | some .string => true
 | some .bool => true
 | some (.struct fs) => tilesK P fs.toList 0 (sizeT P t)
 | _ => false
def eqK (P : Program) (kt : TypeId) (k k' : D) : Option Bool := if fitsD P kt k = true ∧ fitsD P kt k' = true then eqD P 8 kt k k' else none
def findD (P : Program) (kt : TypeId) (k : D) : List (D × D) → Option (Option (Nat × D))
 | [] => some none
 | (k', v) :: es => match eqK P kt k k' with
  | some true => some (some (0, v))
  | some false => (findD P kt k es).map (Option.map fun x => (x.1 + 1, x.2))
  | none => none
def setVal : List (D × D) → Nat → D → List (D × D)
 | [], _, _ => []
 | e :: es, 0, x => (e.1, x) :: es
 | e :: es, i + 1, x => e :: setVal es i x
def esD (H : HM) : D → Option (List (D × D))
 | .nmp => some []
 | .mp id => match H id with
  | some (.map es) => some es
  | _ => none
 | _ => none
def zeroD (P : Program) (t : TypeId) : Option D := ((P.info? t).bind (·.zero)).map ofVal
def lookR (z : Option D) (ok : Bool) : Option (Option (Nat × D)) → Option D
 | some (some (_, v)) => some (if ok = true then .tup [v, .bool true] else v)
 | some none => z.map fun z => if ok = true then .tup [z, .bool false] else z
 | none => none
def lookupD (P : Program) (H : HM) (t : TypeId) (x k : D) (ok : Bool) : Option D :=
 match mapT P t, esD H x with
 | some (kt, et), some es => if keyT P kt = true ∧ fitsD P kt k = true then lookR (zeroD P et) ok (findD P kt k es) else none
 | _, _ => none
def updR (es : List (D × D)) (k x : D) : Option (Option (Nat × D)) → Option HObj
 | some (some (i, _)) => some (.map (setVal es i x))
 | some none => some (.map (es ++ [(k, x)]))
 | none => none
def updateD (P : Program) (H : HM) (t : TypeId) (m k x : D) : Option HM :=
 match mapT P t, m with
 | some (kt, _), .mp id => match H id with
  | some (.map es) => if keyT P kt = true ∧ fitsD P kt k = true then (updR es k x (findD P kt k es)).map fun o => updH H id (some o) else none
  | _ => none
 | _, _ => none
def maxD : D → D → Option D
 | .int k x, .int _ y => some (.int k (max x y))
 | _, _ => none
def minD : D → D → Option D
 | .int k x, .int _ y => some (.int k (min x y))
 | _, _ => none
def pickD (c a b : D) : Option D :=
 match c with
 | .bool t => match a, b with
  | .bool x, .bool y => some (.bool (if t = true then x else y))
  | a, b => some (if t = true then a else b)
 | _ => none

def sourceD (H : HM) (e : TypeId) (n : Nat) : D → Option (Nat × List D)
 | .rsl _ sz els => if sz = n then (cellsAll n els).map fun cs => (els.length, cs) else none
 | .nil => some (0, [])
 | .osl id k => match H id with
  | some (.row e' k' cs) => if e' = e ∧ k = k' then some (k, cs) else none
  | _ => none
 | _ => none
def appendD (P : Program) (H : HM) (nx : Nat) (t : TypeId) (x y : D) : Option (D × HM × Nat) :=
 match elemT P t with
 | some e => if 0 < sizeT P e ∧ hasZero P e = true then
   (sourceD H e (sizeT P e) y).bind fun (m, news) =>
    match x with
    | .nil => if m * bytesT P e ≤ 140737488355328 ∧ m ≤ maxLen then some (.osl nx m, updH H nx (some (.row e m news)), nx + 1) else none
    | .osl id n => match H id with
     | some (.row e' k cs) => if e' = e ∧ n = k ∧ (n + m) * bytesT P e ≤ 140737488355328 ∧ n + m ≤ maxLen then some (.osl id (n + m), updH H id (some (.row e (n + m) (cs ++ news))), nx) else none
     | _ => none
    | _ => none
  else none
 | none => none

def groupD (ag : Bool) (sz : Nat) : Nat → List D → List D
 | 0, _ => []
 | n + 1, cs => (if ag = true then .agg (cs.take sz) else (cs[0]?).getD .any) :: groupD ag sz n (cs.drop sz)
def oneOK (P : Program) (e : TypeId) : Bool := isAggT P e || (!isAggT P e && sizeT P e == 1)
def appendE (P : Program) (H : HM) (t : TypeId) (x y : D) : Option D :=
 match elemT P t with
 | some e => if 0 < sizeT P e ∧ hasZero P e = true ∧ oneOK P e = true then
   (sourceD H e (sizeT P e) y).bind fun (m, news) =>
    if m * bytesT P e ≤ 140737488355328 ∧ m ≤ maxLen ∧ pureD.pureL news = true then
     match x with
     | .e0 => some (.rsl false (sizeT P e) (groupD (isAggT P e) (sizeT P e) m news))
     | .nil => some (.rsl false (sizeT P e) (groupD (isAggT P e) (sizeT P e) m news))
     | _ => none
    else none
  else none
 | none => none
def shutR (P : Program) : D × HM × Nat → Option (D × HM × Nat)
 | (.osl id n, H, nx) => match H id with
  | some (.row e k cs) => if n = k ∧ oneOK P e = true ∧ pureD.pureL cs = true then some (.rsl false (sizeT P e) (groupD (isAggT P e) (sizeT P e) n cs), updH H id none, nx) else none
  | _ => none
 | _ => none
def isOwn (own : List Nat) : Option Nat → Bool
 | some i => own.any fun s => s == i
 | none => false
def isMark (base : Nat) (own : List Nat) : Option Nat → Bool
 | some i => own.any fun s => s == i + base
 | none => false
def boundB : List Nat → Nat
 | [] => 0
 | s :: l => if 8000000 ≤ s then s - 8000000 else boundB l
def cutB (B : Nat) (H : HM) : HM := fun id => if id < B then H id else none
def loadB (P : Program) (H : HM) (nx : Nat) (t : TypeId) : D → Option D
 | .ptr id off => if id < nx then loadD P H t (.ptr id off) else none
 | .rptr d => loadD P H t (.rptr d)
 | _ => none
def loadG (P : Program) (own : List Nat) (dst : Option Nat) (H : HM) (nx : Nat) (t : TypeId) (d : D) : Option D :=
 if isMark 3000000 own dst = true then loadB P H nx t d else if isMark 6000000 own dst = true then loadD P (cutB (boundB own) H) t d else loadD P H t d
theorem load_cut {P : Program} {B : Nat} {H : HM} {t : TypeId} {p d : D} (h : loadD P (cutB B H) t p = some d) : loadD P H t p = some d := by
 have key : ∀ id o, cutB B H id = some o → H id = some o := fun id o ho => by
  unfold cutB at ho; split at ho
  ·exact ho
  ·cases ho
 unfold loadD at h ⊢
 split at h <;> first | exact h | skip
 ·rename_i id off
  split at h
  ·rename_i hid; rw [key _ _ hid]; exact h
  ·cases h
 ·rename_i id n off
  split at h
  ·rename_i hid; rw [key _ _ hid]; exact h
  ·cases h
theorem loadG_some {P : Program} {own : List Nat} {dst : Option Nat} {H : HM} {nx : Nat} {t : TypeId} {p d : D} (h : loadG P own dst H nx t p = some d) : loadD P H t p = some d := by
 unfold loadG at h
 split at h
 ·unfold loadB at h
  split at h
  ·split at h
   ·exact h
   ·cases h
  ·exact h
  ·cases h
 ·split at h
  ·exact load_cut h
  ·exact h
def hmG (own : List Nat) (dst : Option Nat) (H : HM) : HM := if isMark 3000000 own dst = true then fun _ => none else if isMark 6000000 own dst = true then cutB (boundB own) H else H
theorem hmG_some {own : List Nat} {dst : Option Nat} {H : HM} {id : Nat} {o : HObj} (h : hmG own dst H id = some o) : H id = some o := by
 unfold hmG at h
 split at h
 ·cases h
 ·split at h
  ·unfold cutB at h
   split at h
   ·exact h
   ·cases h
  ·exact h
theorem indexAddrG_some {P : Program} {own : List Nat} {dst : Option Nat} {H : HM} {t : TypeId} {x i d : D} (h : indexAddrD P (hmG own dst H) t x i = some d) : indexAddrD P H t x i = some d := by
 unfold indexAddrD at h ⊢
 cases he : elemT P t with
 | some e =>
  rw [he] at h
  cases x <;> first | (exact h; done) | skip
  all_goals (cases i <;> first | (exact h; done) | (cases h; done) | (simp only [reduceCtorEq] at h; done) | skip)
  all_goals
   simp only at h ⊢
   split at h
   ·rename_i hid
    rw [hmG_some hid]; exact h
   ·cases h
 | none => rw [he] at h; exact h
theorem lenG_some {P : Program} {own : List Nat} {dst : Option Nat} {H : HM} {t : TypeId} {x d : D} (h : lenD P (hmG own dst H) t x = some d) : lenD P H t x = some d := by
 unfold lenD at h ⊢
 cases x <;> first | (exact h; done) | (cases h; done) | skip
 all_goals
  simp only at h ⊢
  split at h
  ·rename_i hid
   rw [hmG_some hid]; exact h
  ·cases h
def rangeOK : List Nat → Nat → Nat → Bool
 | [], k, n => k == n
 | i :: is, k, n => i == k && rangeOK is (k + 1) n
def St.keep (st : St) (d : Option D) : Option (D × HM × Nat) := d.map fun d => (d, st.H, st.nx)
def rangeD (P : Program) (t : TypeId) : D → Option Obj
 | .str s => if strT P t = true then some (.stringIter s 0) else none
 | _ => none
def nextD (H : HM) (nx : Nat) (b : Bool) : D → Option (D × HM × Nat)
 | .it id => match H id, b with
  | some (.raw (.stringIter s p)), true => if p < s.size then some (.tup [.bool true, .int .i64 p, .int .i32 (Utf8.decode s p).1], updH H id (some (.raw (.stringIter s (p + (Utf8.decode s p).2)))), nx)
    else some (.tup [.bool false], H, nx)
  | _, _ => none
 | _ => none
def bytesD (s : ByteArray) : List D := s.data.toList.map fun b => .int .u8 b.toNat
def unbyte : List D → Option (List UInt8)
 | [] => some []
 | .int .u8 n :: l => if 0 ≤ n ∧ n ≤ 255 then (unbyte l).map (UInt8.ofNat n.toNat :: ·) else none
 | _ => none
def u8T (P : Program) (t : TypeId) : Bool := match elemT P t with
 | some e => match intT P e with
  | some .u8 => true
  | _ => false
 | none => false
def convS (P : Program) (src dst : TypeId) : D → Option D
 | .str s => if strT P src = true ∧ u8T P dst = true ∧ s.size ≤ 9223372036854775807 then some (.rsl true 1 (bytesD s)) else none
 | .rsl _ 1 els => if u8T P src = true ∧ strT P dst = true then (unbyte els).map fun l => .str ⟨l.toArray⟩ else none
 | _ => none
def convD (P : Program) (src dst : TypeId) (x : D) : Option D :=
 match intT P src, intT P dst, x with
 | some _, some k, .int _ n => some (.int k (k.wrap n))
 | _, _, d => convS P src dst d
def opR (P : Program) (own : List Nat) (o : Oper) (st : St) : Option (D × HM × Nat) :=
 match o.op with
 | .move x => some (st.ev x, st.H, st.nx)
 | .assign x =>
  match st.ev x with
  | .nil => if isOwn own o.dst = true then (elemT P o.type).map fun e => (.osl st.nx 0, updH st.H st.nx (some (.row e 0 [])), st.nx + 1) else some (.nil, st.H, st.nx)
  | d => some (d, st.H, st.nx)
 | .pick c a b => st.keep (pickD (st.ev c) (st.ev a) (st.ev b))
 | .alloc e => (zeroT P e).map fun zs => (.ptr st.nx 0, updH st.H st.nx (some (.box e zs)), st.nx + 1)
 | .box e x => (cellsD (st.ev x)).map fun cs => (.ptr st.nx 0, updH st.H st.nx (some (.box e cs)), st.nx + 1)
 | .build t parts => st.keep (buildD P t (parts.toList.map fun (i, x) => (i, st.ev x)))
 | .buildSlice t len parts =>
  match elemT P t with
  | some e =>
   let els := parts.toList.map fun x => st.ev x.2
   if sizeT P e ≠ 0 ∧ rangeOK (parts.toList.map (·.1)) 0 len = true ∧ len * sizeT P e ≤ 16777216 ∧ (len = 0 ∨ hasZero P e = true) then
    (cellsAll (sizeT P e) els).bind fun cs =>
     if isOwn own o.dst = true then some (.osl st.nx len, updH st.H st.nx (some (.row e len cs)), st.nx + 1)
     else if isMark 1000000 own o.dst = true ∧ len = 0 then some (.e0, st.H, st.nx)
     else some (.rsl true (sizeT P e) els, st.H, st.nx)
   else none
  | none => none
 | .load t p => st.keep (loadG P own o.dst st.H st.nx t (st.ev p))
 | .store t p v => (storeD P st.H t (st.ev p) (st.ev v)).map fun H => (.any, H, st.nx)
 | .binOp op t x y _ => st.keep (binD P op t (st.ev x) (st.ev y))
 | .unOp op _ x => st.keep (unD op (st.ev x))
 | .convert src dst x => st.keep (convD P src dst (st.ev x))
 | .makeFunc fn first cap => match fn with
  | .func f => if first.size = 0 then some (.fn f (cap.toList.map st.ev), st.H, st.nx) else none
  | _ => none
 | .makeMap t none => (mapT P t).map fun _ => (.mp st.nx, updH st.H st.nx (some (.map [])), st.nx + 1)
 | .range t x => (rangeD P t (st.ev x)).map fun q => (.it st.nx, updH st.H st.nx (some (.raw q)), st.nx + 1)
 | .next x b => nextD st.H st.nx b (st.ev x)
 | .lookup t x k ok => st.keep (lookupD P st.H t (st.ev x) (st.ev k) ok)
 | .mapUpdate t m k x => (updateD P st.H t (st.ev m) (st.ev k) (st.ev x)).map fun H => (.any, H, st.nx)
 | .insert t m k x => (updateD P st.H t (st.ev m) (st.ev k) (st.ev x)).map fun H => (.any, H, st.nx)
 | .makeSlice t l c =>
  match elemT P t, st.ev l, st.ev c with
  | some e, .int _ l, .int _ c => if l = c ∧ 0 ≤ l ∧ l.toNat * bytesT P e ≤ 140737488355328 ∧ l ≤ 9223372036854775807 ∧ 0 < sizeT P e then
    (zeroT P e).map fun zs => (.osl st.nx l.toNat, updH st.H st.nx (some (.row e l.toNat (List.replicate l.toNat zs).flatten)), st.nx + 1) else none
  | _, _, _ => none
 | .slice t x lo hi mx => match mx with
  | none => st.keep (sliceD P t (st.ev x) (lo.map st.ev) (hi.map st.ev))
  | some _ => none
 | .fieldAddr s x f => st.keep (fieldAddrD P s (st.ev x) f)
 | .field t x f => match fieldT P t f, st.ev x with
  | some (o, ft), .agg ds => st.keep (takeD P ft ds o)
  | _, _ => none
 | .indexAddr t x i => st.keep (indexAddrD P (hmG own o.dst st.H) t (st.ev x) (st.ev i))
 | .index t x i => st.keep (indexD P t (st.ev x) (st.ev i))
 | .extract x i => match st.ev x with
  | .tup ds => st.keep ds[i]?
  | _ => none
 | .nilCheck x => match st.ev x with
  | .rptr d => some (.rptr d, st.H, st.nx)
  | .ptr id off => some (.ptr id off, st.H, st.nx)
  | _ => none
 | .call c => match c.callee with
  | .builtin b => match b, c.args.toList, c.argTypes.toList with
   | .len, [x], [t] => st.keep (lenD P (hmG own o.dst st.H) t (st.ev x))
   | .max, [x, y], _ => st.keep (maxD (st.ev x) (st.ev y))
   | .min, [x, y], _ => st.keep (minD (st.ev x) (st.ev y))
   | .append, [x, y], [t, u] => if t = u then
     (if isMark 1000000 own o.dst = true then st.keep (appendE P st.H t (st.ev x) (st.ev y))
     else if isMark 2000000 own o.dst = true then (appendD P st.H st.nx t (st.ev x) (st.ev y)).bind (shutR P)
     else appendD P st.H st.nx t (st.ev x) (st.ev y)) else none
   | _, _, _ => none
  | _ => none
 | _ => none

end Go.Proofs.YtkhjpcmpljpmjaaGreatDoor.Abs
/-
 What becomes of a state when an object is made, an object is written, or memory that is only read is made. No condition.
-/
namespace Go.Proofs.YtkhjpcmpljpmjaaGreatDoor.Abs
open Go.RowKit

theorem ownsRow_heap {w w' : World} {base : Nat} {e : TypeId} {sz : Nat} {v : Value} {n : Nat} {vs : List Value}
  (hb : ∀ b, blockOf v = some b → w'.heap[b]? = w.heap[b]?) (h : w.ownsRow base e sz v n vs) : w'.ownsRow base e sz v n vs := by
 refine ⟨h.1, ?_⟩
 rcases h.2 with h2 | ⟨g, cap, cur, hv, hg, hh, r⟩
 ·exact .inl h2
 ·exact .inr ⟨g, cap, cur, hv, hg, by rw [hb g (by rw [hv]; rfl)]; exact hh, r⟩

theorem objOK.mono {P : Program} {s s' : RS} {w w' : World} {v : Value} {o : HObj} (hl : Later s s')
  (hb : ∀ b, blockOf v = some b → w'.heap[b]? = w.heap[b]?) (h : objOK P s w v o) : objOK P s' w' v o := by
 cases o with
 | box e cs =>
  obtain ⟨b, vs, hv, hh, hr, h1⟩ := h
  exact ⟨b, vs, hv, by rw [hb b (by rw [hv]; rfl)]; exact hh, relAll.later hl _ _ hr, h1⟩
 | row e n cs =>
  obtain ⟨vs, ho, hr, h1⟩ := h
  exact ⟨vs, ownsRow_heap hb ho, relAll.later hl _ _ hr, h1⟩
 | map es =>
  obtain ⟨r, ens, c, hv, hh, h1, h2⟩ := h
  exact ⟨r, ens, c, hv, by rw [hb r (by rw [hv]; rfl)]; exact hh, relAll.later hl _ _ h1, relAll.later hl _ _ h2⟩
 | raw q =>
  obtain ⟨r, hv, hh⟩ := h
  exact ⟨r, hv, by rw [hb r (by rw [hv]; rfl)]; exact hh⟩
theorem lt_of_heap {w : World} {b : Nat} {o : Obj} (h : w.heap[b]? = some o) : b < w.heap.size := (Array.getElem?_eq_some_iff.1 h).1
theorem objOK.lt {P : Program} {s : RS} {w : World} {v : Value} {o : HObj} (h : objOK P s w v o) {b : Nat} (hb : blockOf v = some b) : b < w.heap.size := by
 cases o with
 | box e cs =>
  obtain ⟨b', vs, hv, hh, _⟩ := h
  rw [hv] at hb; cases hb; exact lt_of_heap hh
 | row e n cs =>
  obtain ⟨vs, ho, _⟩ := h
  rcases ho.2 with ⟨hv, _⟩ | ⟨g, cap, cur, hv, _, hh, _⟩
  ·rw [hv] at hb; cases hb
  ·rw [hv] at hb; cases hb; exact lt_of_heap hh
 | map es =>
  obtain ⟨r, ens, c, hv, hh, _⟩ := h
  rw [hv] at hb; cases hb; exact lt_of_heap hh
 | raw q =>
  obtain ⟨r, hv, hh⟩ := h
  rw [hv] at hb; cases hb; exact lt_of_heap hh
theorem RH.owned_lt {P : Program} {s : RS} {w : World} (h : RH P s w) {k : Nat} (ho : owned s k) : k < w.heap.size := by
 obtain ⟨id, _, hH, hb⟩ := ho
 cases hs : s.H id with
 | none => exact (hH hs).elim
 | some o => exact (h.obj id o hs).2.lt hb
theorem RH.mem_lt {P : Program} {s : RS} {w : World} (h : RH P s w) {a : Addr} {v : Value} (hm : s.m a = some v) : a.block < w.heap.size :=
 World.block_lt_of_cell? w a (h.mem a v hm).1
theorem cell_of_heap {w w' : World} {a : Addr} (h : w'.heap[a.block]? = w.heap[a.block]?) : w'.cell? a = w.cell? a := World.cell?_of_block h

structure Grew (w w' : World) : Prop where
 os : w'.os = w.os
 tape : w'.tape = w.tape
 output : w'.output = w.output
 size : w.heap.size ≤ w'.heap.size
 old : ∀ k, k < w.heap.size → w'.heap[k]? = w.heap[k]?
theorem Grew.refl (w : World) : Grew w w := ⟨rfl, rfl, rfl, Nat.le_refl _, fun _ _ => rfl⟩
theorem Grew.alloc (w : World) (o : Obj) : Grew w (w.alloc o) := ⟨rfl, rfl, rfl, by simp, fun k hk => Below.heap_alloc w o k hk⟩
theorem Grew.drew {w w' : World} (h : Grew w w') : Grew w.drew w' := ⟨h.os, h.tape, h.output, h.size, h.old⟩
theorem Grew.of_drew {w w' : World} (h : Grew w.drew w') : Grew w w' := ⟨h.os, h.tape, h.output, h.size, h.old⟩

def RS.add (s : RS) (v : Value) (o : HObj) : RS := { s with κ := fun j => if j = s.nx then v else s.κ j, H := updH s.H s.nx (some o), nx := s.nx + 1 }

theorem RH.fresh {P : Program} {s : RS} {w : World} (h : RH P s w) {i : Nat} (hi : s.H i ≠ none) : i < s.nx := by
 cases hs : s.H i with
 | none => exact (hi hs).elim
 | some o => exact (h.obj i o hs).1

theorem later_add {P : Program} {s : RS} {w : World} (_h : RH P s w) (v : Value) (o : HObj) : Later s (s.add v o) := by
 refine ⟨by simp [RS.add], fun a u hm => hm, fun id hid => ?_⟩
 have : id ≠ s.nx := by omega
 simp only [RS.add, updH, if_neg this]
 exact objLe.refl _ _

theorem new_obj {P : Program} {s : RS} {w w' : World} (h : RH P s w) (hg : Grew w w') (o : HObj) (v : Value)
  (hb : ∀ b, blockOf v = some b → w.heap.size ≤ b) (hok : objOK P (s.add v o) w' v o) :
  Step s w (s.add v o) w' ∧ RH P (s.add v o) w' := by
 have hl := later_add h v o
 have hown : ∀ k, owned (s.add v o) k → owned s k ∨ w.heap.size ≤ k := by
  rintro k ⟨id, hid, hH, hk⟩
  by_cases hi : id = s.nx
  ·subst hi
   simp only [RS.add, if_true] at hk
   exact .inr (hb k hk)
  ·simp only [RS.add, updH, if_neg hi] at hH hk
   exact .inl ⟨id, h.fresh hH, hH, hk⟩
 refine ⟨⟨hg.os, hg.tape, hg.output, hg.size, hl.nx, hl.mem, fun a u hm => .inl hm, hl.objs, fun k hk _ => hg.old k hk, hown⟩, ?_, ?_, ?_, fun g => rel.later hl _ _ (h.glob g)⟩
 ·intro a u hm
  have hlt := h.mem_lt hm
  obtain ⟨h1, h2⟩ := h.mem a u hm
  refine ⟨by rw [cell_of_heap (hg.old _ hlt)]; exact h1, fun ho => ?_⟩
  rcases hown _ ho with h3 | h3
  ·exact h2 h3
  ·omega
 ·intro id o' ho'
  by_cases hi : id = s.nx
  ·subst hi
   simp only [RS.add, updH, if_true, Option.some.injEq] at ho' ⊢
   subst ho'
   exact ⟨by omega, hok⟩
  ·simp only [RS.add, updH, if_neg hi] at ho' ⊢
   obtain ⟨h1, h2⟩ := h.obj id o' ho'
   exact ⟨by omega, h2.mono hl fun b hb' => hg.old b (h2.lt hb')⟩
 ·intro i j hi hj hij hbi
  by_cases h1 : i = s.nx
  ·subst h1
   have h2 : j ≠ s.nx := fun e => hij e.symm
   simp only [RS.add, updH, if_true, if_neg h2] at hi hj hbi ⊢
   intro e
   cases hbv : blockOf v with
   | none => exact hbi hbv
   | some b =>
    cases hs : s.H j with
    | none => exact hj hs
    | some oj =>
     have := (h.obj j oj hs).2.lt (b := b) (by rw [← e, hbv])
     have := hb b hbv
     omega
  ·by_cases h2 : j = s.nx
   ·subst h2
    simp only [RS.add, updH, if_true, if_neg h1] at hi hj hbi ⊢
    intro e
    cases hbv : blockOf v with
    | none => rw [hbv] at e; exact hbi e
    | some b =>
     cases hs : s.H i with
     | none => exact hi hs
     | some oi =>
      have := (h.obj i oi hs).2.lt (b := b) (by rw [e, hbv])
      have := hb b hbv
      omega
   ·simp only [RS.add, updH, if_neg h1, if_neg h2] at hi hj hbi ⊢
    exact h.apart i j hi hj hij hbi

def RS.grow (s : RS) (w w' : World) : RS := { s with m := fun a => if a.block < w.heap.size then s.m a else w'.cell? a }

theorem new_mem {P : Program} {s : RS} {w w' : World} (h : RH P s w) (hg : Grew w w') :
  Step s w (s.grow w w') w' ∧ RH P (s.grow w w') w' := by
 have hmem : ∀ a v, s.m a = some v → (s.grow w w').m a = some v := by
  intro a v hm
  simp only [RS.grow, if_pos (h.mem_lt hm)]
  exact hm
 have hl : Later s (s.grow w w') := ⟨Nat.le_refl _, hmem, fun id _ => objLe.refl _ _⟩
 refine ⟨⟨hg.os, hg.tape, hg.output, hg.size, Nat.le_refl _, hmem, fun a v hm => ?_, fun id _ => objLe.refl _ _, fun k hk _ => hg.old k hk, fun k ho => .inl ho⟩, ?_, ?_, ?_, fun g => rel.later hl _ _ (h.glob g)⟩
 ·simp only [RS.grow] at hm
  split at hm
  ·exact .inl hm
  ·exact .inr (.inl (by omega))
 ·intro a v hm
  simp only [RS.grow] at hm
  split at hm
  ·rename_i hlt
   obtain ⟨h1, h2⟩ := h.mem a v hm
   exact ⟨by rw [cell_of_heap (hg.old _ hlt)]; exact h1, h2⟩
  ·rename_i hlt
   refine ⟨hm, fun ho => hlt (h.owned_lt ho)⟩
 ·intro id o ho
  obtain ⟨h1, h2⟩ := h.obj id o ho
  exact ⟨h1, h2.mono hl fun b hb' => hg.old b (h2.lt hb')⟩
 ·exact h.apart

theorem drawn_state {P : Program} {s : RS} {w w' : World} (h : RH P s w) (hh : w'.heap = w.heap) (ho : w'.os = w.os) (ht : w'.tape = w.tape) (hout : w'.output = w.output) :
  Step s w s w' ∧ RH P s w' := by
 refine ⟨⟨ho, ht, hout, by rw [hh]; exact Nat.le_refl _, Nat.le_refl _, fun _ _ h => h, fun _ _ h => .inl h, fun _ _ => objLe.refl _ _, fun k _ _ => by rw [hh], fun _ h => .inl h⟩, ?_, ?_, h.apart, h.glob⟩
 ·intro a v hm
  obtain ⟨h1, h2⟩ := h.mem a v hm
  exact ⟨by rw [cell_of_heap (w := w) (w' := w') (by rw [hh])]; exact h1, h2⟩
 ·intro id o hs
  obtain ⟨h1, h2⟩ := h.obj id o hs
  exact ⟨h1, h2.mono ⟨Nat.le_refl _, fun _ _ h => h, fun _ _ => objLe.refl _ _⟩ fun b _ => by rw [hh]⟩

def RS.set (s : RS) (id : Nat) (v : Value) (o : HObj) : RS := { s with κ := fun j => if j = id then v else s.κ j, H := updH s.H id (some o) }

theorem set_obj {P : Program} {s : RS} {w w' : World} (h : RH P s w) (id : Nat) (o o' : HObj) (v : Value) (hid : s.H id = some o)
  (hos : w'.os = w.os) (ht : w'.tape = w.tape) (hout : w'.output = w.output) (hsz : w.heap.size ≤ w'.heap.size)
  (hold : ∀ k, k < w.heap.size → some k ≠ blockOf (s.κ id) → w'.heap[k]? = w.heap[k]?)
  (hle : objLe (some o) (some o') (s.κ id) v)
  (hb : ∀ b, blockOf v = some b → blockOf (s.κ id) = some b ∨ w.heap.size ≤ b) (hok : Later s (s.set id v o') → objOK P (s.set id v o') w' v o') :
  Step s w (s.set id v o') w' ∧ RH P (s.set id v o') w' := by
 have hidn := (h.obj id o hid).1
 have hl : Later s (s.set id v o') := by
  refine ⟨Nat.le_refl _, fun a u hm => hm, fun j hj => ?_⟩
  by_cases hji : j = id
  ·subst hji; simp only [RS.set, updH, if_true]; rw [hid]; exact hle
  ·simp only [RS.set, updH, if_neg hji]; exact objLe.refl _ _
 have hok := hok hl
 have hown : ∀ k, owned (s.set id v o') k → owned s k ∨ w.heap.size ≤ k := by
  rintro k ⟨j, hj, hH, hk⟩
  by_cases hji : j = id
  ·subst hji
   simp only [RS.set, if_true] at hk
   rcases hb k hk with h1 | h1
   ·exact .inl ⟨j, hidn, by rw [hid]; simp, h1⟩
   ·exact .inr h1
  ·simp only [RS.set, updH, if_neg hji] at hH hk
   exact .inl ⟨j, hj, hH, hk⟩
 refine ⟨⟨hos, ht, hout, hsz, hl.nx, hl.mem, fun a u hm => .inl hm, hl.objs, fun k hk ho => hold k hk (fun e => ho ⟨id, hidn, by rw [hid]; simp, e.symm⟩), hown⟩, ?_, ?_, ?_, fun g => rel.later hl _ _ (h.glob g)⟩
 ·intro a u hm
  have hlt := h.mem_lt hm
  obtain ⟨h1, h2⟩ := h.mem a u hm
  have hne : some a.block ≠ blockOf (s.κ id) := fun e => h2 ⟨id, hidn, by rw [hid]; simp, e.symm⟩
  refine ⟨by rw [cell_of_heap (hold _ hlt hne)]; exact h1, fun ho => ?_⟩
  rcases hown _ ho with h3 | h3
  ·exact h2 h3
  ·omega
 ·intro j oj ho'
  by_cases hji : j = id
  ·subst hji
   simp only [RS.set, updH, if_true, Option.some.injEq] at ho' ⊢
   subst ho'
   exact ⟨hidn, hok⟩
  ·simp only [RS.set, updH, if_neg hji] at ho' ⊢
   obtain ⟨h1, h2⟩ := h.obj j oj ho'
   refine ⟨h1, h2.mono hl fun b hb' => hold b (h2.lt hb') fun e => ?_⟩
   exact h.apart j id (by rw [ho']; simp) (by rw [hid]; simp) hji (by rw [hb']; simp) (by rw [hb', e])
 ·intro i j hi hj hij hbi
  by_cases h1 : i = id
  ·subst h1
   have h2 : j ≠ i := fun e => hij e.symm
   simp only [RS.set, updH, if_true, if_neg h2] at hi hj hbi ⊢
   intro e
   cases hbv : blockOf v with
   | none => exact hbi hbv
   | some b =>
    cases hs : s.H j with
    | none => exact hj hs
    | some oj =>
     have hlt := (h.obj j oj hs).2.lt (b := b) (by rw [← e, hbv])
     rcases hb b hbv with h3 | h3
     ·exact h.apart j i hj (by rw [hid]; simp) h2 (by rw [← e, hbv]; simp) (by rw [← e, hbv, h3])
     ·omega
  ·by_cases h2 : j = id
   ·subst h2
    simp only [RS.set, updH, if_true, if_neg h1] at hi hj hbi ⊢
    intro e
    cases hbv : blockOf v with
    | none => rw [hbv] at e; exact hbi e
    | some b =>
     cases hs : s.H i with
     | none => exact hi hs
     | some oi =>
      have hlt := (h.obj i oi hs).2.lt (b := b) (by rw [e, hbv])
      rcases hb b hbv with h3 | h3
      ·exact h.apart i j hi (by rw [hid]; simp) h1 hbi (by rw [e, hbv, h3])
      ·omega
   ·simp only [RS.set, updH, if_neg h1, if_neg h2] at hi hj hbi ⊢
    exact h.apart i j hi hj hij hbi

end Go.Proofs.YtkhjpcmpljpmjaaGreatDoor.Abs
/-
 The abstract operations are sound, first part: values, cells, loads, stores, fields, indexes. No condition.
-/
namespace Go.Proofs.YtkhjpcmpljpmjaaGreatDoor.Abs
open Go.RowKit
variable {P : Program}

theorem ones_nil : ones [] := fun _ h => by cases h
theorem ones_one {v : Value} (h : v.oneCell' = true) : ones [v] := by
 intro u hu; simp at hu; subst hu; exact h
theorem ones_append {vs us : List Value} (h : ones vs) (h' : ones us) : ones (vs ++ us) := by
 intro u hu; rcases List.mem_append.1 hu with h1 | h1
 ·exact h u h1
 ·exact h' u h1
theorem ones_take {vs : List Value} (h : ones vs) (n : Nat) : ones (vs.take n) := fun u hu => h u (List.mem_of_mem_take hu)
theorem ones_drop {vs : List Value} (h : ones vs) (n : Nat) : ones (vs.drop n) := fun u hu => h u (List.mem_of_mem_drop hu)
theorem cells_of_one {v : Value} (h : v.oneCell' = true) : v.cells = #[v] := by cases v <;> simp_all [Value.cells, Value.oneCell']

theorem rel_cells {s : RS} {d : D} {v : Value} {ds : List D} (h : rel s d v) (hc : cellsD d = some ds) : relAll s ds v.cells.toList ∧ ones v.cells.toList := by
 have one : ∀ (d : D), cellsD d = some [d] → v.oneCell' = true → rel s d v → cellsD d = some ds → relAll s ds v.cells.toList ∧ ones v.cells.toList := by
  intro d h1 h2 h3 h4
  rw [h1] at h4; cases h4
  rw [cells_of_one h2]
  exact ⟨relAll_cons h3 relAll_nil, ones_one h2⟩
 cases d with
 | any => simp [cellsD] at hc
 | tup ds => simp [cellsD] at hc
 | agg es =>
  simp only [cellsD, Option.some.injEq] at hc; subst hc
  simp only [rel] at h
  obtain ⟨vs, rfl, h2, h3⟩ := h
  simp only [Value.cells]
  exact ⟨h2, h3⟩
 | int k n => exact one _ rfl (by simp only [rel] at h; subst h; rfl) h hc
 | bool b => exact one _ rfl (by simp only [rel] at h; subst h; rfl) h hc
 | str b => exact one _ rfl (by simp only [rel] at h; subst h; rfl) h hc
 | nil => exact one _ rfl (by simp only [rel] at h; subst h; rfl) h hc
 | nptr => exact one _ rfl (by simp only [rel] at h; subst h; rfl) h hc
 | nfun => exact one _ rfl (by simp only [rel] at h; subst h; rfl) h hc
 | nmp => exact one _ rfl (by simp only [rel] at h; subst h; rfl) h hc
 | e0 => exact one _ rfl (by simp only [rel] at h; obtain ⟨a, rfl⟩ := h; rfl) h hc
 | rsl nn sz els =>
  refine one _ rfl ?_ h hc
  simp only [rel] at h
  rcases h with ⟨_, _, rfl⟩ | ⟨a, cap, vs, rfl, _⟩ <;> rfl
 | rptr d =>
  refine one _ rfl ?_ h hc
  simp only [rel] at h
  obtain ⟨a, u, rfl, _⟩ := h; rfl
 | fn f cap =>
  refine one _ rfl ?_ h hc
  simp only [rel] at h
  obtain ⟨vs, rfl, _⟩ := h; rfl
 | osl id n => exact one _ rfl (by simp only [rel] at h; obtain ⟨_, h2, _⟩ := h; first | (obtain ⟨_, rfl⟩ := h2; rfl) | (obtain ⟨_, _, rfl⟩ := h2; rfl)) h hc
 | ptr id n => exact one _ rfl (by simp only [rel] at h; obtain ⟨_, h2, _⟩ := h; first | (obtain ⟨_, rfl⟩ := h2; rfl) | (obtain ⟨_, _, rfl⟩ := h2; rfl)) h hc
 | eptr id n off => exact one _ rfl (by simp only [rel] at h; obtain ⟨_, h2, _⟩ := h; first | (obtain ⟨_, rfl⟩ := h2; rfl) | (obtain ⟨_, _, rfl⟩ := h2; rfl)) h hc
 | mp id => exact one _ rfl (by simp only [rel] at h; obtain ⟨_, h2, _⟩ := h; first | (obtain ⟨_, rfl⟩ := h2; rfl) | (obtain ⟨_, _, rfl⟩ := h2; rfl)) h hc
 | it id => exact one _ rfl (by simp only [rel] at h; obtain ⟨_, h2, _⟩ := h; first | (obtain ⟨_, rfl⟩ := h2; rfl) | (obtain ⟨_, _, rfl⟩ := h2; rfl)) h hc

theorem rel_ofCell (s : RS) (v : Value) : rel s (ofCell v) v := by
 unfold ofCell
 split <;> simp [rel]
theorem rel_ofVal (s : RS) (v : Value) : rel s (ofVal v) v := by
 unfold ofVal
 split
 ·rename_i cs
  split
  ·rename_i h
   simp only [rel]
   refine ⟨cs.toList, by simp, ?_, fun u hu => by simpa using List.all_eq_true.1 h u hu⟩
   refine relAll_of (by simp) fun i d u hd hu => ?_
   simp only [List.getElem?_map, hu, Option.map_some, Option.some.injEq] at hd
   subst hd; exact rel_ofCell s u
  ·simp [rel]
 ·exact rel_ofCell s v
theorem relAll_ofCells (s : RS) (vs : List Value) : relAll s (vs.map ofCell) vs := by
 refine relAll_of (by simp) fun i d u hd hu => ?_
 simp only [List.getElem?_map, hu, Option.map_some, Option.some.injEq] at hd
 subst hd; exact rel_ofCell s u

theorem aggT_underlying {t : TypeId} (h : isAggT P t = true) : (∃ fs, P.underlying t = some (.struct fs)) ∨ ∃ n e, P.underlying t = some (.array n e) := by
 unfold isAggT at h
 split at h
 ·rename_i fs hu; exact .inl ⟨fs, hu⟩
 ·rename_i n e hu; exact .inr ⟨n, e, hu⟩
 ·cases h
theorem run_isAgg_true {t : TypeId} (h : isAggT P t = true) (w : World) : (isAgg t).run P w = .ok true w := by
 rcases aggT_underlying h with ⟨fs, hu⟩ | ⟨n, e, hu⟩ <;> simp [isAgg, run_underlying hu]
theorem run_isAgg_false {t : TypeId} (h : isOneT P t = true) (w : World) : (isAgg t).run P w = .ok false w := by
 unfold isOneT at h
 cases hu : P.underlying t with
 | none => rw [hu] at h; cases h
 | some d =>
  rw [hu] at h
  cases d <;> first | (cases h; done) | simp [isAgg, run_underlying hu]
theorem info_of_underlying {t : TypeId} {d : TypeDesc} (h : P.underlying t = some d) : ∃ i, P.info? t = some i := by
 unfold Program.underlying at h
 cases hi : P.info? t with
 | none => rw [hi] at h; cases h
 | some i => exact ⟨i, rfl⟩
theorem run_sizeOf {t : TypeId} {i : TypeInfo} (h : P.info? t = some i) (w : World) : (sizeOf t).run P w = .ok (sizeT P t) w := by
 simp [sizeOf, typeInfo, h, sizeT]
theorem run_sizeOf_u {t : TypeId} {d : TypeDesc} (h : P.underlying t = some d) (w : World) : (sizeOf t).run P w = .ok (sizeT P t) w := by
 obtain ⟨i, hi⟩ := info_of_underlying h
 exact run_sizeOf hi w
theorem info_of_size {t : TypeId} (h : sizeT P t ≠ 0) : ∃ i, P.info? t = some i := by
 unfold sizeT at h
 cases hi : P.info? t with
 | none => rw [hi] at h; simp at h
 | some i => exact ⟨i, rfl⟩

theorem relAll_seg {s : RS} {cs : List D} {vs : List Value} (h : relAll s cs vs) (off n : Nat) : relAll s ((cs.drop off).take n) ((vs.drop off).take n) := relAll_take n (relAll_drop off h)

theorem takeD_val {s : RS} {t : TypeId} {cs : List D} {vs : List Value} {off : Nat} {d : D} (h : takeD P t cs off = some d) (hr : relAll s cs vs) (h1 : ones vs) :
  ∃ u, rel s d u ∧ (∀ j c, u.cells.toList[j]? = some c → vs[off + j]? = some c) ∧
   (∀ (w : World) (a : Addr), (∀ j c, u.cells.toList[j]? = some c → w.cell? (a.add j) = some c) → (loadVar t a).run P w = .ok u w) ∧
   (∀ w, (part t vs.toArray off).run P w = .ok u w) := by
 have hlen := relAll_length hr
 unfold takeD at h
 split at h
 ·rename_i hagg
  split at h
  ·rename_i hle
   simp only [Option.some.injEq] at h
   subst h
   refine ⟨.agg ((vs.drop off).take (sizeT P t)).toArray, ?_, ?_, ?_, ?_⟩
   ·simp only [rel]
    exact ⟨_, rfl, relAll_seg hr _ _, ones_take (ones_drop h1 _) _⟩
   ·intro j c hj
    simp only [Value.cells, List.getElem?_take, List.getElem?_drop] at hj
    split at hj
    ·exact hj
    ·cases hj
   ·intro w a ha
    have hl : ((vs.drop off).take (sizeT P t)).length = sizeT P t := by simp; omega
    have hload := run_loadCells_list (P := P) w a ((vs.drop off).take (sizeT P t)) (by simpa [Value.cells] using ha)
    rw [hl] at hload
    rcases aggT_underlying hagg with ⟨fs, hu⟩ | ⟨n, e, hu⟩ <;>
     simp [loadVar, run_isAgg_true hagg, run_sizeOf_u hu, hload]
   ·intro w
    rcases aggT_underlying hagg with ⟨fs, hu⟩ | ⟨n, e, hu⟩ <;>
    ·simp only [part, Sem.run_bind, run_isAgg_true hagg, Result.andThen_ok, if_true, run_sizeOf_u hu, Sem.run_pure]
     congr 2
     apply Array.ext'
     simp
  ·cases h
 ·split at h
  ·rename_i hone
   obtain ⟨u, hu, hru⟩ := relAll_get hr off d h
   have hu1 : u.oneCell' = true := h1 u (List.mem_of_getElem? hu)
   refine ⟨u, hru, ?_, ?_, ?_⟩
   ·intro j c hj
    rw [cells_of_one hu1] at hj
    cases j with
    | zero => simp at hj; subst hj; simpa using hu
    | succ j => simp at hj
   ·intro w a ha
    have := ha 0 u (by rw [cells_of_one hu1]; simp)
    simp only [Addr.add, if_true] at this
    simp [loadVar, run_isAgg_false hone, this]
   ·intro w
    simp [part, run_isAgg_false hone, hu]
  ·cases h

def Ran (P : Program) (s : RS) (w : World) (e : Sem Next) (d : D) (H : HM) (nx : Nat) : Prop :=
 ∃ v s' w', (e.run P w = .ok (.value v) w' ∨ (e.run P w = .ok .skip w' ∧ v = undef)) ∧ Step s w s' w' ∧ RH P s' w' ∧ s'.H = H ∧ s'.nx = nx ∧ rel s' d v

theorem ran_pure {s : RS} {w : World} {e : Sem Next} {d : D} {v : Value} (h : RH P s w) (hr : e.run P w = .ok (.value v) w) (hd : rel s d v) : Ran P s w e d s.H s.nx :=
 ⟨v, s, w, .inl hr, Step.refl s w, h, rfl, rfl, hd⟩
theorem ran_value {s : RS} {w : World} {x : Sem Value} {d : D} {v : Value} (h : RH P s w) (hr : x.run P w = .ok v w) (hd : rel s d v) :
  Ran P s w (do pure (.value (← x))) d s.H s.nx :=
 ran_pure h (by simp [hr]) hd

theorem box_cells {s : RS} {w : World} (h : RH P s w) {id : Nat} {e : TypeId} {cs : List D} (hid : s.H id = some (.box e cs)) :
  ∃ b vs, s.κ id = .pointer (some ⟨b, 0, none⟩) ∧ w.heap[b]? = some (.cells (List.toArray vs) e (0, 0)) ∧ relAll s cs vs ∧ ones vs ∧
   ∀ j c, vs[j]? = some c → w.cell? ⟨b, j, none⟩ = some c := by
 obtain ⟨b, vs, hv, hh, hr, h1⟩ := (h.obj id _ hid).2
 refine ⟨b, vs, hv, hh, hr, h1, fun j c hj => ?_⟩
 rw [cell_of_row w b j _ e (0, 0) hh]; simpa using hj
theorem row_cells {s : RS} {w : World} (h : RH P s w) {id : Nat} {e : TypeId} {n : Nat} {cs : List D} (hid : s.H id = some (.row e n cs)) :
  ∃ vs, w.ownsRow 0 e (sizeT P e) (s.κ id) n vs ∧ relAll s cs vs ∧ ones vs ∧ cs.length = n * sizeT P e ∧
   ∀ b, blockOf (s.κ id) = some b → ∀ j c, vs[j]? = some c → w.cell? ⟨b, j, none⟩ = some c := by
 obtain ⟨vs, ho, hr, h1⟩ := (h.obj id _ hid).2
 refine ⟨vs, ho, hr, h1, by rw [← relAll_length hr]; exact ho.1, fun b hb j c hj => ?_⟩
 rcases ho.2 with ⟨hv, _⟩ | ⟨g, cap, cur, hv, _, hh, _, _, _, ht⟩
 ·rw [hv] at hb; cases hb
 ·rw [hv] at hb; cases hb
  rw [cell_of_row w g j _ e (0, 0) hh]
  rw [← ht, List.getElem?_take] at hj
  split at hj
  ·simpa using hj
  ·cases hj
theorem addr_add0 (b off j : Nat) : (⟨b, off, none⟩ : Addr).add j = ⟨b, off + j, none⟩ := by
 unfold Addr.add; split
 ·rename_i h; subst h; rfl
 ·rfl
theorem addr_add_add (a : Addr) (n m : Nat) : (a.add n).add m = a.add (n + m) := by
 unfold Addr.add
 by_cases hn : n = 0
 ·subst hn; simp
 ·by_cases hm : m = 0
  ·subst hm; simp [hn]
  ·simp [hn, hm, Nat.add_assoc]

theorem fits_load {s : RS} {t : TypeId} {d : D} {u : Value} (hf : fitsD P t d = true) (hr : rel s d u) (w : World) (a : Addr)
  (hc : ∀ j c, u.cells.toList[j]? = some c → w.cell? (a.add j) = some c) : (loadVar t a).run P w = .ok u w := by
 have one : isOneT P t = true → u.oneCell' = true → (loadVar t a).run P w = .ok u w := by
  intro h1 h2
  have := hc 0 u (by rw [cells_of_one h2]; simp)
  simp only [Addr.add, if_true] at this
  simp [loadVar, run_isAgg_false h1, this]
 have cell : (∀ ds, d ≠ .agg ds) → (∀ ds, d ≠ .tup ds) → d ≠ .any → isOneT P t = true → (loadVar t a).run P w = .ok u w := by
  intro g1 g2 g3 h2
  refine one h2 ?_
  cases d <;> first | exact (g1 _ rfl).elim | exact (g2 _ rfl).elim | exact (g3 rfl).elim | skip
  all_goals simp only [rel] at hr
  all_goals first
   | (subst hr; rfl)
   | (rcases hr with ⟨_, _, rfl⟩ | ⟨_, _, _, rfl, _⟩ <;> rfl)
   | (obtain ⟨_, ⟨_, rfl⟩, _⟩ := hr; rfl)
   | (obtain ⟨_, ⟨_, _, rfl⟩, _⟩ := hr; rfl)
   | (obtain ⟨_, _, rfl, _⟩ := hr; rfl)
   | (obtain ⟨_, rfl, _⟩ := hr; rfl)
 cases d with
 | agg ds =>
  simp only [fitsD, Bool.and_eq_true, beq_iff_eq] at hf
  obtain ⟨hagg, hl⟩ := hf
  simp only [rel] at hr
  obtain ⟨vs, rfl, h2, h3⟩ := hr
  have hload := run_loadCells_list (P := P) w a vs (by simpa [Value.cells] using hc)
  rw [relAll_length h2, hl] at hload
  rcases aggT_underlying hagg with ⟨fs, hu⟩ | ⟨n, e, hu⟩ <;>
   simp [loadVar, run_isAgg_true hagg, run_sizeOf_u hu, hload]
 | any => simp [fitsD] at hf
 | tup ds => simp [fitsD] at hf
 | _ => exact cell (by simp) (by simp) (by simp) (by simpa [fitsD] using hf)

theorem load_sound {s : RS} {w : World} (h : RH P s w) {t : TypeId} {p d : D} {v : Value} (hd : loadD P s.H t p = some d) (hp : rel s p v) :
  ∃ u, (Instr.loadAt t v).run P w = .ok u w ∧ rel s d u := by
 unfold loadD at hd
 split at hd
 ·rename_i id off
  cases hid : s.H id with
  | none => rw [hid] at hd; cases hd
  | some o =>
   rw [hid] at hd
   cases o with
   | box e cs =>
    simp only at hd
    obtain ⟨b, vs, hk, hh, hr, h1, hcell⟩ := box_cells h hid
    simp only [rel] at hp
    obtain ⟨_, _, hp⟩ := hp
    obtain ⟨b', hk', rfl⟩ := hp _ _ hid
    rw [hk] at hk'; cases hk'
    obtain ⟨u, hu, hsub, hload, _⟩ := takeD_val hd hr h1
    refine ⟨u, ?_, hu⟩
    simp only [Instr.loadAt, Instr.sureAddr, Sem.run_bind, Sem.run_pure, Result.andThen_ok]
    exact hload w _ fun j c hj => by rw [addr_add0]; exact hcell _ _ (hsub j c hj)
   | row e n cs => cases hd
   | map es => cases hd
   | raw q => cases hd
 ·rename_i id n off
  cases hid : s.H id with
  | none => rw [hid] at hd; cases hd
  | some o =>
   rw [hid] at hd
   cases o with
   | row e k cs =>
    simp only at hd
    split at hd
    ·rename_i hnk
     subst hnk
     obtain ⟨vs, ho, hr, h1, _, hcell⟩ := row_cells h hid
     simp only [rel] at hp
     obtain ⟨_, _, hp⟩ := hp
     obtain ⟨b, hk', rfl⟩ := (hp _ _ _ hid).2 rfl
     obtain ⟨u, hu, hsub, hload, _⟩ := takeD_val hd hr h1
     refine ⟨u, ?_, hu⟩
     simp only [Instr.loadAt, Instr.sureAddr, Sem.run_bind, Sem.run_pure, Result.andThen_ok]
     exact hload w _ fun j c hj => by rw [addr_add0]; exact hcell _ hk' _ _ (hsub j c hj)
    ·cases hd
   | box e cs => cases hd
   | map es => cases hd
   | raw q => cases hd
 ·rename_i d'
  split at hd
  ·rename_i hf
   cases hd
   simp only [rel] at hp
   obtain ⟨a, u, rfl, hr, hc⟩ := hp
   refine ⟨u, ?_, hr⟩
   simp only [Instr.loadAt, Instr.sureAddr, Sem.run_bind, Sem.run_pure, Result.andThen_ok]
   exact fits_load hf hr w a fun j c hj => (h.mem _ _ (hc j c hj)).1
  ·cases hd
 ·cases hd

theorem fieldAddr_sound {s : RS} {w : World} (_h : RH P s w) {st : TypeId} {p d : D} {v : Value} {f : Nat} (hd : fieldAddrD P st p f = some d) (hp : rel s p v) :
  ∃ u, (Instr.fieldAt st v f).run P w = .ok u w ∧ rel s d u := by
 unfold fieldAddrD at hd
 cases hf : fieldT P st f with
 | none => rw [hf] at hd; cases hd
 | some ot =>
  obtain ⟨o, t⟩ := ot
  rw [hf] at hd
  simp only at hd
  unfold fieldT at hf
  cases hu : P.underlying st with
  | none => rw [hu] at hf; cases hf
  | some desc =>
   rw [hu] at hf
   cases desc <;> first | (cases hf; done) | skip
   rename_i fs
   simp only [Option.map_eq_some_iff] at hf
   obtain ⟨fld, hfld, heq⟩ := hf
   simp only [Prod.mk.injEq] at heq
   obtain ⟨rfl, rfl⟩ := heq
   split at hd
   ·cases hd
   ·rename_i hsz
    obtain ⟨i, hi⟩ := info_of_size hsz
    have run : ∀ a : Addr, (Instr.fieldAt st (.pointer (some a)) f).run P w = .ok (.pointer (some (a.add fld.offset))) w := by
     intro a
     simp [Instr.fieldAt, run_underlying hu, hfld, Instr.sureAddr, fieldPlace, run_sizeOf hi, hsz]
    cases p <;> first | (cases hd; done) | skip
    case ptr id off =>
     simp only [Option.some.injEq] at hd; subst hd
     simp only [rel] at hp
     obtain ⟨h1, ⟨a, rfl⟩, h3⟩ := hp
     refine ⟨_, run _, ?_⟩
     simp only [rel]
     refine ⟨h1, ⟨_, rfl⟩, fun e cs hH => ?_⟩
     obtain ⟨b, hk, ha⟩ := h3 _ _ hH
     cases ha
     exact ⟨b, hk, by rw [addr_add0]⟩
    case eptr id n off =>
     simp only [Option.some.injEq] at hd; subst hd
     simp only [rel] at hp
     obtain ⟨h1, ⟨a, rfl⟩, h3⟩ := hp
     refine ⟨_, run _, ?_⟩
     simp only [rel]
     refine ⟨h1, ⟨_, rfl⟩, fun e k cs hH => ⟨(h3 _ _ _ hH).1, fun hnk => ?_⟩⟩
     obtain ⟨b, hk, ha⟩ := (h3 _ _ _ hH).2 hnk
     cases ha
     exact ⟨b, hk, by rw [addr_add0]⟩
    case rptr d' =>
     cases d' <;> first | (cases hd; done) | skip
     rename_i ds
     simp only [Option.map_eq_some_iff] at hd
     obtain ⟨d', hd', rfl⟩ := hd
     simp only [rel] at hp
     obtain ⟨a, u, rfl, ⟨vs, rfl, hr, h1⟩, hc⟩ := hp
     obtain ⟨u', hu', hsub, _, _⟩ := takeD_val hd' hr h1
     refine ⟨_, run _, ?_⟩
     simp only [rel]
     refine ⟨_, u', rfl, hu', fun j c hj => ?_⟩
     rw [addr_add_add]
     exact hc _ _ (by simpa [Value.cells] using hsub j c hj)

end Go.Proofs.YtkhjpcmpljpmjaaGreatDoor.Abs
/-
 The abstract operations are sound, second part: stores, indexes, slices, aggregates, operators. No condition.
-/
namespace Go.Proofs.YtkhjpcmpljpmjaaGreatDoor.Abs
open Go.RowKit
variable {P : Program}

theorem splice_length {α : Type} : ∀ (vs cs : List α) (off : Nat), (splice cs off vs).length = cs.length
 | [], cs, off => rfl
 | v :: vs, cs, off => by rw [splice, splice_length vs]; simp
theorem splice_eq {α : Type} : ∀ (vs cs : List α) (off : Nat), off + vs.length ≤ cs.length → splice cs off vs = cs.take off ++ vs ++ cs.drop (off + vs.length)
 | [], cs, off, _ => by simp [splice]
 | v :: vs, cs, off, h => by
  simp only [List.length_cons] at h
  rw [splice, splice_eq vs _ _ (by simp; omega)]
  apply List.ext_getElem?
  intro j
  simp only [List.getElem?_append, List.getElem?_take, List.getElem?_set, List.getElem?_drop, List.length_append, List.length_take, List.length_set, List.length_cons, List.getElem?_cons]
  by_cases h1 : j < off
  ·rw [if_pos (by omega), if_pos (by omega), if_pos (by omega), if_neg (by omega), if_pos (by omega), if_pos (by omega), if_pos (by omega)]
  ·by_cases h2 : j = off
   ·subst h2
    rw [if_pos (by omega), if_pos (by omega), if_pos (by omega), if_pos rfl, if_pos (by omega), if_pos (by omega), if_neg (by omega), if_pos (by omega)]
   ·by_cases h3 : j < off + 1 + vs.length
    ·rw [if_pos (by omega), if_neg (by omega), if_pos (by omega), if_neg (by omega), if_neg (by omega)]
     congr 1; omega
    ·rw [if_neg (by omega), if_neg (by omega), if_neg (by omega)]
     congr 1; omega
theorem relAll_splice {s : RS} : ∀ {ds : List D} {us : List Value} {cs : List D} {vs : List Value} (off : Nat), relAll s ds us → relAll s cs vs → relAll s (splice cs off ds) (splice vs off us)
 | [], us, cs, vs, off, h, h' => by
  simp only [relAll] at h; subst h; exact h'
 | d :: ds, us, cs, vs, off, h, h' => by
  simp only [relAll] at h
  obtain ⟨v, r, rfl, h1, h2⟩ := h
  simp only [splice]
  exact relAll_splice (off + 1) h2 (relAll_set h' off h1)
theorem ones_set {vs : List Value} (h : ones vs) (n : Nat) {v : Value} (hv : v.oneCell' = true) : ones (vs.set n v) := by
 intro u hu
 rcases List.mem_or_eq_of_mem_set hu with h1 | h1
 ·exact h u h1
 ·subst h1; exact hv
theorem ones_splice : ∀ {us vs : List Value} (off : Nat), ones us → ones vs → ones (splice vs off us)
 | [], vs, off, _, h => h
 | u :: us, vs, off, h, h' => by
  simp only [splice]
  exact ones_splice (off + 1) (fun x hx => h x (List.mem_cons_of_mem _ hx)) (ones_set h' off (h u (by simp)))

theorem splice_prefix {A : List Value} {N off : Nat} {us : List Value} (h : off + us.length ≤ N) (hN : N ≤ A.length) :
  (A.take off ++ us ++ A.drop (off + us.length)).take N = splice (A.take N) off us := by
 rw [splice_eq _ _ _ (by simp; omega)]
 apply List.ext_getElem?
 intro j
 simp only [List.getElem?_append, List.getElem?_take, List.getElem?_drop, List.length_append, List.length_take]
 by_cases h0 : j < N
 ·by_cases h1 : j < off
  ·rw [if_pos h0, if_pos (by omega), if_pos (by omega), if_pos (by omega), if_pos (by omega), if_pos (by omega), if_pos (by omega), if_pos (by omega)]
  ·by_cases h2 : j < off + us.length
   ·rw [if_pos h0, if_pos (by omega), if_neg (by omega), if_pos (by omega), if_neg (by omega)]
    congr 1; omega
   ·rw [if_pos h0, if_neg (by omega), if_neg (by omega), if_pos (by omega)]
    congr 1; omega
 ·rw [if_neg h0, if_neg (by omega), if_neg (by omega)]

theorem run_storeAt {t : TypeId} {a : Addr} {u : Value} {w w' : World} (hi : ∃ i, P.info? t = some i) (hs : u.cells.size = sizeT P t) (hst : (storeCells a u.cells.toList 0).run P w = .ok () w') :
  (Instr.storeAt t (.pointer (some a)) u).run P w = .ok () w' := by
 obtain ⟨i, hi⟩ := hi
 simp [Instr.storeAt, Instr.sureAddr, storeVar, run_sizeOf hi, hs, hst]

theorem store_sound {s : RS} {w : World} (h : RH P s w) {t : TypeId} {p d : D} {v u : Value} {H : HM} (hd : storeD P s.H t p d = some H) (hp : rel s p v) (hv : rel s d u) :
  ∃ s' w', (Instr.storeAt t v u).run P w = .ok () w' ∧ Step s w s' w' ∧ RH P s' w' ∧ s'.H = H ∧ s'.nx = s.nx := by
 unfold storeD at hd
 cases hc : cellsD d with
 | none => rw [hc] at hd; cases hd
 | some ds =>
  rw [hc] at hd
  simp only at hd
  obtain ⟨hr, h1⟩ := rel_cells hv hc
  have hlen := relAll_length hr
  split at hd
  ·rename_i hsz
   obtain ⟨hsz, hpos⟩ := hsz
   have hi : ∃ i, P.info? t = some i := info_of_size (by omega)
   have hus : u.cells.size = sizeT P t := by rw [← hsz, ← hlen]; simp
   split at hd
   ·rename_i id off
    cases hid : s.H id with
    | none => rw [hid] at hd; cases hd
    | some o =>
     rw [hid] at hd
     cases o <;> first | (cases hd; done) | skip
     rename_i e cs
     simp only at hd
     split at hd
     ·rename_i hle
      simp only [Option.some.injEq] at hd
      subst hd
      obtain ⟨b, vs, hk, hh, hrv, hov, _⟩ := box_cells h hid
      simp only [rel] at hp
      obtain ⟨hidn, _, hp⟩ := hp
      obtain ⟨b', hk', rfl⟩ := hp _ _ hid
      rw [hk] at hk'; cases hk'
      have hlv := relAll_length hrv
      have hst := run_storeCells_at P b off e u.cells.toList 0 vs.toArray w hh (by simp at hlen ⊢; omega) h1
      have hsp : vs.take (off + 0) ++ u.cells.toList ++ vs.drop (off + 0 + u.cells.toList.length) = splice vs off u.cells.toList := by
       rw [splice_eq _ _ _ (by omega)]; simp
      simp only at hst
      rw [hsp] at hst
      obtain ⟨hstep, hRH⟩ := set_obj (w' := w.setRow b (splice vs off u.cells.toList).toArray) h id (.box e cs) (.box e (splice cs off ds)) (s.κ id) hid rfl rfl rfl (by simp)
       (fun k _ hkb => setRow_other w b k _ (by intro e; subst e; rw [hk] at hkb; exact hkb rfl))
       (by simp [objLe]) (fun b' hb' => .inl hb')
       (fun hl => ⟨b, splice vs off u.cells.toList, hk, setRow_heap w b _ _ e _ hh, relAll.later hl _ _ (relAll_splice off hr hrv), ones_splice off h1 hov⟩)
      exact ⟨_, _, run_storeAt hi hus hst, hstep, hRH, rfl, rfl⟩
     ·cases hd
   ·rename_i id n off
    cases hid : s.H id with
    | none => rw [hid] at hd; cases hd
    | some o =>
     rw [hid] at hd
     cases o <;> first | (cases hd; done) | skip
     rename_i e k cs
     simp only at hd
     split at hd
     ·rename_i hle
      obtain ⟨hnk, hle⟩ := hle
      subst hnk
      simp only [Option.some.injEq] at hd
      subst hd
      obtain ⟨vs, ho, hrv, hov, hcl, _⟩ := row_cells h hid
      simp only [rel] at hp
      obtain ⟨hidn, _, hp⟩ := hp
      obtain ⟨b, hk, rfl⟩ := (hp _ _ _ hid).2 rfl
      have hlv := relAll_length hrv
      rcases ho.2 with ⟨hv0, _⟩ | ⟨g, cap, cur, hv0, _, hh, hnc, hcm, hcs, ht⟩
      ·rw [hv0] at hk; cases hk
      ·rw [hv0] at hk; cases hk
       have hNle : n * sizeT P e ≤ cap * sizeT P e := Nat.mul_le_mul_right _ hnc
       have hst := run_storeCells_at P g off e u.cells.toList 0 cur w hh (by omega) h1
       obtain ⟨hstep, hRH⟩ := set_obj (w' := w.setRow g (cur.toList.take (off + 0) ++ u.cells.toList ++ cur.toList.drop (off + 0 + u.cells.toList.length)).toArray) h id (.row e n cs) (.row e n (splice cs off ds)) (s.κ id) hid rfl rfl rfl (by simp)
        (fun k _ hkb => setRow_other w g k _ (by intro e; subst e; rw [hv0] at hkb; exact hkb rfl))
        (by simp [objLe]) (fun b' hb' => .inl hb')
        (fun hl => ⟨splice vs off u.cells.toList, ⟨by rw [splice_length]; exact ho.1, .inr ⟨g, cap, _, hv0, Nat.zero_le _, setRow_heap w g _ _ e _ hh, hnc, hcm, by
          simp only [List.size_toArray, List.length_append, List.length_take, List.length_drop, Array.length_toList]; omega, by
          simp only [Nat.add_zero]
          rw [splice_prefix (by omega) (by simp; omega), ht]⟩⟩,
         relAll.later hl _ _ (relAll_splice off hr hrv), ones_splice off h1 hov⟩)
       exact ⟨_, _, run_storeAt hi hus hst, hstep, hRH, rfl, rfl⟩
     ·cases hd
   ·cases hd
  ·cases hd

theorem idxD_some {els : List D} {i : Int} {d : D} (h : idxD els i = some d) : 0 ≤ i ∧ i < els.length ∧ els[i.toNat]? = some d := by
 unfold idxD at h
 split at h
 ·rename_i hc; exact ⟨hc.1, hc.2, h⟩
 ·cases h

theorem elemT_some {t e : TypeId} (h : elemT P t = some e) : P.underlying t = some (.slice e) := by
 unfold elemT at h
 split at h
 ·cases h; assumption
 ·cases h
theorem arrT_some {t e : TypeId} {n : Nat} (h : arrT P t = some (n, e)) : P.underlying t = some (.array n e) := by
 unfold arrT at h
 split at h
 ·cases h; assumption
 ·cases h

theorem strT_some {t : TypeId} (h : strT P t = true) : P.underlying t = some .string := by
 unfold strT at h
 split at h
 ·assumption
 ·cases h
theorem boolT_some {t : TypeId} (h : boolT P t = true) : P.underlying t = some .bool := by
 unfold boolT at h
 split at h
 ·assumption
 ·cases h
theorem mapT_some {t k e : TypeId} (h : mapT P t = some (k, e)) : P.underlying t = some (.map k e) := by
 unfold mapT at h
 split at h
 ·cases h; assumption
 ·cases h

theorem info_elem {t e : TypeId} (_h : P.underlying t = some (.slice e)) (h0 : sizeT P e ≠ 0) (w : World) : (sizeOf e).run P w = .ok (sizeT P e) w := by
 obtain ⟨i, hi⟩ := info_of_size h0
 exact run_sizeOf hi w

theorem rel_size_pos {s : RS} {d : D} {v : Value} {ds : List D} (h : rel s d v) (hc : cellsD d = some ds) : v.cells.size = ds.length := by
 have := relAll_length (rel_cells h hc).1
 simpa using this

theorem indexAddr_sound {s : RS} {w : World} (h : RH P s w) {t : TypeId} {x i d : D} {vx vi : Value} (hd : indexAddrD P s.H t x i = some d) (hx : rel s x vx) (hi : rel s i vi) :
  ∃ u, (Instr.indexAt t vx vi).run P w = .ok u w ∧ rel s d u := by
 unfold indexAddrD at hd
 cases he : elemT P t with
 | some e =>
  rw [he] at hd
  simp only at hd
  have hu := elemT_some he
  split at hd
  ·rename_i nn sz els k i
   split at hd
   ·rename_i hsz
    obtain ⟨rfl, h0⟩ := hsz
    simp only [Option.map_eq_some_iff] at hd
    obtain ⟨el, hel, rfl⟩ := hd
    obtain ⟨hi0, hil, hget⟩ := idxD_some hel
    simp only [rel] at hx hi
    subst hi
    rcases hx with ⟨_, he0, _⟩ | ⟨a, cap, vs, rfl, _, _, hr, hlies⟩
    ·subst he0; simp at hget
    ·obtain ⟨u, hu', hru⟩ := relAll_get hr _ _ hget
     obtain ⟨hsz', hc⟩ := hlies _ _ hu'
     refine ⟨.pointer (some (a.add (i.toNat * sizeT P e))), ?_, ?_⟩
     ·simp [Instr.indexAt, asIntOf, run_underlying hu, hi0, hil, info_elem hu h0]
     ·simp only [rel]
      exact ⟨_, u, rfl, hru, hc⟩
   ·cases hd
  ·rename_i id n k i
   cases hid : s.H id with
   | none => rw [hid] at hd; cases hd
   | some o =>
    rw [hid] at hd
    cases o <;> first | (cases hd; done) | skip
    rename_i e' k' cs
    simp only at hd
    split at hd
    ·rename_i hc
     obtain ⟨rfl, rfl, h0, hi0, hil⟩ := hc
     simp only [Option.some.injEq] at hd; subst hd
     simp only [rel] at hx hi
     subst hi
     obtain ⟨hidn, _, hlive⟩ := hx
     have hv := (hlive _ _ _ hid).2 rfl
     obtain ⟨vs, ho, hr, h1, _, _⟩ := row_cells h hid
     rcases ho.2 with ⟨hv0, hn0⟩ | ⟨g, cap, cur, hv0, _, _⟩
     ·omega
     ·rw [hv0] at hv; subst hv
      refine ⟨.pointer (some ((⟨g, 0, none⟩ : Addr).add (i.toNat * sizeT P e'))), ?_, ?_⟩
      ·simp [Instr.indexAt, asIntOf, run_underlying hu, hi0, hil, info_elem hu h0]
      ·simp only [rel]
       exact ⟨hidn, ⟨_, rfl⟩, fun e2 k2 cs2 hH => by
        rw [hid] at hH; cases hH
        exact ⟨Nat.le_refl _, fun _ => ⟨g, by rw [hv0]; rfl, by rw [addr_add0, Nat.zero_add]⟩⟩⟩
    ·cases hd
  ·cases hd
 | none =>
  rw [he] at hd
  simp only at hd
  cases ha : arrT P t with
  | none => rw [ha] at hd; cases hd
  | some le =>
   obtain ⟨len, e⟩ := le
   rw [ha] at hd
   simp only at hd
   have hu := arrT_some ha
   have run : ∀ (a : Addr) (k : IntKind) (i : Int), sizeT P e ≠ 0 → 0 ≤ i → i < len → (Instr.indexAt t (.pointer (some a)) (.int k i)).run P w = .ok (.pointer (some (a.add (i.toNat * sizeT P e)))) w := by
    intro a k i h0 h1 h2
    obtain ⟨inf, hinf⟩ := info_of_size h0
    simp [Instr.indexAt, asIntOf, run_underlying hu, Instr.sureAddr, h1, h2, run_sizeOf hinf]
   split at hd
   ·rename_i id off k i
    split at hd
    ·rename_i hc
     simp only [Option.some.injEq] at hd; subst hd
     simp only [rel] at hx hi
     subst hi
     obtain ⟨h1, ⟨a, rfl⟩, h3⟩ := hx
     refine ⟨_, run a k i hc.1 hc.2.1 hc.2.2, ?_⟩
     simp only [rel]
     refine ⟨h1, ⟨_, rfl⟩, fun e' cs hH => ?_⟩
     obtain ⟨b, hk, ha'⟩ := h3 _ _ hH
     cases ha'
     exact ⟨b, hk, by rw [addr_add0]⟩
    ·cases hd
   ·rename_i id n off k i
    split at hd
    ·rename_i hc
     simp only [Option.some.injEq] at hd; subst hd
     simp only [rel] at hx hi
     subst hi
     obtain ⟨h1, ⟨a, rfl⟩, h3⟩ := hx
     refine ⟨_, run a k i hc.1 hc.2.1 hc.2.2, ?_⟩
     simp only [rel]
     refine ⟨h1, ⟨_, rfl⟩, fun e' k' cs hH => ⟨(h3 _ _ _ hH).1, fun hnk => ?_⟩⟩
     obtain ⟨b, hk, ha'⟩ := (h3 _ _ _ hH).2 hnk
     cases ha'
     exact ⟨b, hk, by rw [addr_add0]⟩
    ·cases hd
   ·rename_i ds k i
    split at hd
    ·rename_i hc
     simp only [Option.map_eq_some_iff] at hd
     obtain ⟨d', hd', rfl⟩ := hd
     simp only [rel] at hx hi
     subst hi
     obtain ⟨a, u, rfl, ⟨vs, rfl, hr, h1⟩, hcl⟩ := hx
     obtain ⟨u', hu', hsub, _, _⟩ := takeD_val hd' hr h1
     refine ⟨_, run a k i hc.1 hc.2.1 hc.2.2, ?_⟩
     simp only [rel]
     refine ⟨_, u', rfl, hu', fun j c hj => ?_⟩
     rw [addr_add_add]
     exact hcl _ _ (by simpa [Value.cells] using hsub j c hj)
    ·cases hd
   ·cases hd

theorem index_sound {s : RS} {w : World} {t : TypeId} {x i d : D} {vx vi : Value} (hd : indexD P t x i = some d) (hx : rel s x vx) (hi : rel s i vi) :
  ∃ u, (Instr.index t vx vi).run P w = .ok u w ∧ rel s d u := by
 unfold indexD at hd
 split at hd
 ·rename_i len e ds k i ha
  have hu := arrT_some ha
  split at hd
  ·rename_i hc
   obtain ⟨h0, h1, h2⟩ := hc
   simp only [rel] at hx hi
   subst hi
   obtain ⟨vs, rfl, hr, ho⟩ := hx
   obtain ⟨u, hu', _, _, hpart⟩ := takeD_val hd hr ho
   obtain ⟨inf, hinf⟩ := info_of_size h0
   exact ⟨u, by simp [Instr.index, asIntOf, run_underlying hu, h1, h2, run_sizeOf hinf, hpart], hu'⟩
  ·cases hd
 ·rename_i b k i ha
  split at hd
  ·rename_i hs
   obtain ⟨hs, h0⟩ := hs
   simp only [Option.map_eq_some_iff] at hd
   obtain ⟨c, hc, rfl⟩ := hd
   simp only [rel] at hx hi
   subst hx; subst hi
   exact ⟨.int .u8 c.toNat, by simp [Instr.index, asIntOf, run_underlying (strT_some hs), h0, hc], by simp [rel]⟩
  ·cases hd
 ·cases hd

theorem field_sound {s : RS} {w : World} {t ft : TypeId} {f o : Nat} {ds : List D} {d : D} {v : Value} (hf : fieldT P t f = some (o, ft)) (hd : takeD P ft ds o = some d) (hx : rel s (.agg ds) v) :
  ∃ u, (Instr.field t v f).run P w = .ok u w ∧ rel s d u := by
 simp only [rel] at hx
 obtain ⟨vs, rfl, hr, ho⟩ := hx
 obtain ⟨u, hu', _, _, hpart⟩ := takeD_val hd hr ho
 unfold fieldT at hf
 cases hu : P.underlying t with
 | none => rw [hu] at hf; cases hf
 | some desc =>
  rw [hu] at hf
  cases desc <;> first | (cases hf; done) | skip
  rename_i fs
  simp only [Option.map_eq_some_iff] at hf
  obtain ⟨fld, hfld, heq⟩ := hf
  simp only [Prod.mk.injEq] at heq
  obtain ⟨rfl, rfl⟩ := heq
  exact ⟨u, by simp [Instr.field, run_underlying hu, hfld, asAgg, hpart], hu'⟩

theorem boundD_rel {s : RS} {dflt : Nat} {o : Option D} {ov : Option Value} {i : Int} (h : boundD dflt o = some i) (hr : ∀ d, o = some d → ∃ v, ov = some v ∧ rel s d v) (hn : o = none → ov = none) :
  (ov = none ∧ i = dflt) ∨ ∃ k, ov = some (.int k i) := by
 unfold boundD at h
 split at h
 ·cases h; exact .inl ⟨hn rfl, rfl⟩
 ·rename_i k j
  cases h
  obtain ⟨v, hv, hrv⟩ := hr _ rfl
  simp only [rel] at hrv; subst hrv
  exact .inr ⟨k, hv⟩
 ·cases h

theorem run_sliceBound {k : IntKind} {i : Int} {y : Nat} {code : BoundsCode} {w : World} (h0 : 0 ≤ i) (h1 : i ≤ y) : (Instr.sliceBound (.int k i) y code).run P w = .ok i.toNat w := by
 simp [Instr.sliceBound, asIntOf, h0, h1]
theorem run_sliceBounds {len cap : Nat} {lo hi : Option Value} {l h : Int} {w : World} (hc : len ≤ cap)
  (hl : (lo = none ∧ l = (0 : Nat)) ∨ ∃ k, lo = some (.int k l)) (hh : (hi = none ∧ h = (len : Nat)) ∨ ∃ k, hi = some (.int k h)) (h0 : 0 ≤ l) (h1 : l ≤ h) (h2 : h ≤ len) :
  (Instr.sliceBounds true len cap lo hi none).run P w = .ok (l.toNat, h.toNat, cap) w := by
 rcases hl with ⟨rfl, rfl⟩ | ⟨kl, rfl⟩ <;> rcases hh with ⟨rfl, rfl⟩ | ⟨kh, rfl⟩
 ·simp [Instr.sliceBounds]
 ·have := run_sliceBound (P := P) (k := kh) (i := h) (y := cap) (code := .sliceAcap) (w := w) (by omega) (by omega)
  simp [Instr.sliceBounds, this]
 ·have := run_sliceBound (P := P) (k := kl) (i := l) (y := len) (code := .sliceB) (w := w) (by omega) (by omega)
  simp [Instr.sliceBounds, this]
 ·have h3 := run_sliceBound (P := P) (k := kh) (i := h) (y := cap) (code := .sliceAcap) (w := w) (by omega) (by omega)
  have h4 := run_sliceBound (P := P) (k := kl) (i := l) (y := h.toNat) (code := .sliceB) (w := w) (by omega) (by omega)
  simp [Instr.sliceBounds, h3, h4]

theorem run_sliceBoundsS {len cap : Nat} {lo hi : Option Value} {l h : Int} {w : World} (hc : len ≤ cap)
  (hl : (lo = none ∧ l = (0 : Nat)) ∨ ∃ k, lo = some (.int k l)) (hh : (hi = none ∧ h = (len : Nat)) ∨ ∃ k, hi = some (.int k h)) (h0 : 0 ≤ l) (h1 : l ≤ h) (h2 : h ≤ len) :
  (Instr.sliceBounds false len cap lo hi none).run P w = .ok (l.toNat, h.toNat, cap) w := by
 rcases hl with ⟨rfl, rfl⟩ | ⟨kl, rfl⟩ <;> rcases hh with ⟨rfl, rfl⟩ | ⟨kh, rfl⟩
 ·simp [Instr.sliceBounds]
 ·have := run_sliceBound (P := P) (k := kh) (i := h) (y := cap) (code := .sliceAlen) (w := w) (by omega) (by omega)
  simp [Instr.sliceBounds, this]
 ·have := run_sliceBound (P := P) (k := kl) (i := l) (y := len) (code := .sliceB) (w := w) (by omega) (by omega)
  simp [Instr.sliceBounds, this]
 ·have h3 := run_sliceBound (P := P) (k := kh) (i := h) (y := cap) (code := .sliceAlen) (w := w) (by omega) (by omega)
  have h4 := run_sliceBound (P := P) (k := kl) (i := l) (y := h.toNat) (code := .sliceB) (w := w) (by omega) (by omega)
  simp [Instr.sliceBounds, h3, h4]

theorem slice_sound {s : RS} {w : World} {t : TypeId} {x d : D} {lo hi : Option D} {vx : Value} {vlo vhi : Option Value} (hd : sliceD P t x lo hi = some d) (hx : rel s x vx)
  (hlo : ∀ d, lo = some d → ∃ v, vlo = some v ∧ rel s d v) (hlo' : lo = none → vlo = none) (hhi : ∀ d, hi = some d → ∃ v, vhi = some v ∧ rel s d v) (hhi' : hi = none → vhi = none) :
  ∃ u, (Instr.sliceAt t vx vlo vhi none).run P w = .ok u w ∧ rel s d u := by
 unfold sliceD at hd
 cases he : elemT P t with
 | none =>
  rw [he] at hd
  simp only at hd
  split at hd
  ·rename_i x
   simp only [Option.bind_eq_some_iff] at hd
   obtain ⟨l, hl, h, hh, hd⟩ := hd
   split at hd
   ·rename_i hc
    obtain ⟨hst, h0, h1, h2⟩ := hc
    simp only [Option.some.injEq] at hd; subst hd
    have hl' := boundD_rel hl hlo hlo'
    have hh' := boundD_rel hh hhi hhi'
    simp only [rel] at hx; subst hx
    have hb := run_sliceBoundsS (P := P) (len := x.size) (cap := x.size) (w := w) (Nat.le_refl _) hl' hh' h0 h1 h2
    exact ⟨.string (x.extract l.toNat h.toNat), by simp [Instr.sliceAt, Instr.slice, run_underlying (strT_some hst), hb], by simp [rel]⟩
   ·cases hd
  ·cases hd
 | some e =>
  rw [he] at hd
  have hu := elemT_some he
  simp only at hd
  split at hd
  ·rename_i nn sz els
   simp only [Option.bind_eq_some_iff] at hd
   obtain ⟨l, hl, h, hh, hd⟩ := hd
   split at hd
   ·rename_i hc
    obtain ⟨rfl, hne, h0, h1, h2⟩ := hc
    obtain ⟨inf, hinf⟩ := info_of_size hne
    simp only [Option.some.injEq] at hd; subst hd
    have hl' := boundD_rel hl hlo hlo'
    have hh' := boundD_rel hh hhi hhi'
    simp only [rel] at hx
    rcases hx with ⟨rfl, rfl, rfl⟩ | ⟨a, cap, vs, rfl, hcap, hmax, hr, hlies⟩
    ·have hb := run_sliceBounds (P := P) (len := 0) (cap := 0) (w := w) (Nat.le_refl _) hl' hh' h0 h1 h2
     have h2' : h.toNat = 0 := by simp at h2; omega
     have h1' : l.toNat = 0 := by omega
     refine ⟨.slice none 0 0, ?_, ?_⟩
     ·simp [Instr.sliceAt, Instr.slice, run_underlying hu, hb, run_sizeOf hinf, h2', h1']
     ·simp [rel]
    ·have hb := run_sliceBounds (P := P) (len := els.length) (cap := cap) (w := w) hcap hl' hh' h0 h1 h2
     refine ⟨.slice (if cap = l.toNat then some a else some (a.add (l.toNat * sizeT P e))) (h.toNat - l.toNat) (cap - l.toNat), ?_, ?_⟩
     ·simp [Instr.sliceAt, Instr.slice, run_underlying hu, hb, run_sizeOf hinf]
     ·simp only [rel]
      have hlv := relAll_length hr
      refine .inr ⟨if cap = l.toNat then a else a.add (l.toNat * sizeT P e), cap - l.toNat, (vs.take h.toNat).drop l.toNat, ?_, ?_, by omega, relAll_drop _ (relAll_take _ hr), ?_⟩
      ·simp only [List.length_drop, List.length_take]
       split <;> (congr 1; omega)
      ·simp only [List.length_drop, List.length_take]; omega
      ·intro j v hj
       simp only [List.getElem?_drop, List.getElem?_take] at hj
       split at hj
       ·rename_i hjl
        have hlt : l.toNat + j < vs.length := by
         rcases Nat.lt_or_ge (l.toNat + j) vs.length with h9 | h9
         ·exact h9
         ·rw [List.getElem?_eq_none h9] at hj; cases hj
        obtain ⟨h5, h6⟩ := hlies _ _ hj
        refine ⟨h5, ?_⟩
        rw [if_neg (by omega), addr_add_add, ← Nat.add_mul]
        exact h6
       ·cases hj
   ·cases hd
  ·simp only [Option.bind_eq_some_iff] at hd
   obtain ⟨l, hl, h, hh, hd⟩ := hd
   split at hd
   ·rename_i hc
    obtain ⟨hne, rfl, rfl⟩ := hc
    obtain ⟨inf, hinf⟩ := info_of_size hne
    simp only [Option.some.injEq] at hd; subst hd
    have hl' := boundD_rel hl hlo hlo'
    have hh' := boundD_rel hh hhi hhi'
    simp only [rel] at hx; subst hx
    have hb := run_sliceBounds (P := P) (len := 0) (cap := 0) (w := w) (Nat.le_refl _) hl' hh' (by omega) (by omega) (by simp)
    exact ⟨.slice none 0 0, by simp [Instr.sliceAt, Instr.slice, run_underlying hu, hb, run_sizeOf hinf], by simp [rel]⟩
   ·cases hd
  ·cases hd

end Go.Proofs.YtkhjpcmpljpmjaaGreatDoor.Abs
