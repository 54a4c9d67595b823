/-
  An abstract layer over the model: abstract values, the relation between them and the model's values in a world, and the steps between two states. No condition.
-/
import Derived.WalkKit
import Derived.Below
import Derived.Laws.AppendOwn
import Derived.Laws.Tables
import Derived.Laws.Cells
set_option linter.unusedSimpArgs false
set_option linter.unusedVariables false
namespace Go.Proofs.Ytjibdljdkgedcaa.Abs
open Go.RowKit

/-- Abstract values. 'rsl': a slice that is only read; 'fsl': such a slice without room behind it; 'osl', 'ptr', 'eptr': into an object that the call owns. -/
inductive D where
  | any
  | int (k : IntKind) (n : Int)
  | bool (b : Bool)
  | str (s : ByteArray)
  | agg (ds : List D)
  | tup (ds : List D)
  | nil
  | rsl (nn : Bool) (sz : Nat) (els : List D)
  | nptr
  | rptr (d : D)
  | nfun
  | fn (f : FuncId) (cap : List D)
  | osl (id n : Nat)
  | ptr (id off : Nat)
  | eptr (id n off : Nat)
  | mp (id : Nat)
  | nmp
  | e0
  | fsl (sz : Nat) (els : List D)
  | it (id : Nat)

/-- Owned objects: a boxed variable, a row of cells behind a slice, a map, an object of the model as it is (an iterator). -/
inductive HObj where
  | box (e : TypeId) (cs : List D)
  | row (e : TypeId) (n : Nat) (cs : List D)
  | map (es : List (D × D))
  | raw (o : Obj)

abbrev HM := Nat → Option HObj

/-- What the abstract values of a state mean: the memory that is only read, and where the owned objects lie. -/
structure RS where
  m : Addr → Option Value
  κ : Nat → Value
  H : HM
  nx : Nat

def ones (vs : List Value) : Prop := ∀ v ∈ vs, v.oneCell' = true
def cellsAt (m : Addr → Option Value) (a : Addr) (cs : List Value) : Prop := ∀ j c, cs[j]? = some c → m (a.add j) = some c
def Lies (m : Addr → Option Value) (a : Addr) (sz : Nat) (vs : List Value) : Prop :=
  ∀ i v, vs[i]? = some v → v.cells.size = sz ∧ cellsAt m (a.add (i * sz)) v.cells.toList
def blockOf : Value → Option Nat
  | .pointer (some a) => some a.block
  | .slice (some a) _ _ => some a.block
  | .map (some r) => some r
  | _ => none

mutual
def rel (s : RS) : D → Value → Prop
  | .any, _ => True
  | .int k n, v => v = .int k n
  | .bool b, v => v = .bool b
  | .str x, v => v = .string x
  | .agg ds, v => ∃ vs : List Value, v = .agg vs.toArray ∧ relAll s ds vs ∧ ones vs
  | .tup ds, v => ∃ vs : List Value, v = .tuple vs.toArray ∧ relAll s ds vs
  | .nil, v => v = .slice none 0 0
  | .rsl nn sz els, v => (nn = false ∧ els = [] ∧ v = .slice none 0 0) ∨
      ∃ a cap vs, v = .slice (some a) els.length cap ∧ els.length ≤ cap ∧ cap ≤ maxLen ∧ relAll s els vs ∧ Lies s.m a sz vs
  | .nptr, v => v = .pointer none
  | .rptr d, v => ∃ a u, v = .pointer (some a) ∧ rel s d u ∧ cellsAt s.m a u.cells.toList
  | .nfun, v => v = .nilFunc
  | .fn f cap, v => ∃ vs : List Value, v = .func (.func f) #[] vs.toArray ∧ relAll s cap vs
  | .osl id n, v => id < s.nx ∧ (∃ a c, v = .slice a n c) ∧ ∀ e k cs, s.H id = some (.row e k cs) → n ≤ k ∧ (n = k → v = s.κ id)
  | .ptr id off, v => id < s.nx ∧ (∃ a, v = .pointer (some a)) ∧ ∀ e cs, s.H id = some (.box e cs) → ∃ b, s.κ id = .pointer (some ⟨b, 0, none⟩) ∧ v = .pointer (some ⟨b, off, none⟩)
  | .eptr id n off, v => id < s.nx ∧ (∃ a, v = .pointer (some a)) ∧ ∀ e k cs, s.H id = some (.row e k cs) → n ≤ k ∧ (n = k → ∃ b, blockOf (s.κ id) = some b ∧ v = .pointer (some ⟨b, off, none⟩))
  | .mp id, v => id < s.nx ∧ (∃ r, v = .map (some r)) ∧ ∀ es, s.H id = some (.map es) → v = s.κ id
  | .nmp, v => v = .map none
  | .e0, v => ∃ a, v = .slice (some a) 0 0
  | .fsl sz els, v => (els = [] ∧ v = .slice none 0 0) ∨ ∃ a vs, v = .slice (some a) els.length els.length ∧ els.length ≤ maxLen ∧ relAll s els vs ∧ Lies s.m a sz vs
  | .it id, v => id < s.nx ∧ (∃ a, v = .pointer (some a)) ∧ ∀ o, s.H id = some (.raw o) → v = s.κ id
def relAll (s : RS) : List D → List Value → Prop
  | [], vs => vs = []
  | d :: ds, vs => ∃ v r, vs = v :: r ∧ rel s d v ∧ relAll s ds r
end

theorem relAll_length {s : RS} : ∀ {ds : List D} {vs : List Value}, relAll s ds vs → vs.length = ds.length
  | [], vs, h => by simp [relAll] at h; simp [h]
  | d :: ds, vs, h => by
    obtain ⟨v, r, rfl, _, h2⟩ := (by simpa only [relAll] using h : ∃ v r, vs = v :: r ∧ rel s d v ∧ relAll s ds r)
    simp [relAll_length h2]
theorem relAll_cons {s : RS} {d : D} {ds : List D} {v : Value} {r : List Value} (h : rel s d v) (hr : relAll s ds r) : relAll s (d :: ds) (v :: r) := by
  simp only [relAll]; exact ⟨v, r, rfl, h, hr⟩
theorem relAll_nil {s : RS} : relAll s [] [] := by simp [relAll]
theorem relAll_get {s : RS} : ∀ {ds : List D} {vs : List Value}, relAll s ds vs → ∀ (i : Nat) (d : D), ds[i]? = some d → ∃ v, vs[i]? = some v ∧ rel s d v
  | [], vs, h, i, d, hd => by simp at hd
  | d0 :: ds, vs, h, i, d, hd => by
    obtain ⟨v, r, rfl, h1, h2⟩ := (by simpa only [relAll] using h : ∃ v r, vs = v :: r ∧ rel s d0 v ∧ relAll s ds r)
    cases i with
    | zero => simp at hd; subst hd; exact ⟨v, by simp, h1⟩
    | succ i =>
      obtain ⟨u, hu, hr⟩ := relAll_get h2 i d (by simpa using hd)
      exact ⟨u, by simpa using hu, hr⟩
theorem relAll_of {s : RS} : ∀ {ds : List D} {vs : List Value}, vs.length = ds.length → (∀ (i : Nat) d v, ds[i]? = some d → vs[i]? = some v → rel s d v) → relAll s ds vs
  | [], vs, hl, _ => by
    have : vs = [] := List.eq_nil_of_length_eq_zero (by simpa using hl)
    subst this; exact relAll_nil
  | d :: ds, [], hl, _ => by simp at hl
  | d :: ds, v :: vs, hl, h => relAll_cons (h 0 d v (by simp) (by simp)) (relAll_of (by simpa using hl) fun i d' v' h1 h2 => h (i + 1) d' v' (by simpa using h1) (by simpa using h2))
theorem relAll_append {s : RS} : ∀ {ds es : List D} {vs us : List Value}, relAll s ds vs → relAll s es us → relAll s (ds ++ es) (vs ++ us)
  | [], es, vs, us, h, h' => by simp [relAll] at h; subst h; simpa using h'
  | d :: ds, es, vs, us, h, h' => by
    obtain ⟨v, r, rfl, h1, h2⟩ := (by simpa only [relAll] using h : ∃ v r, vs = v :: r ∧ rel s d v ∧ relAll s ds r)
    exact relAll_cons h1 (relAll_append h2 h')
theorem relAll_take {s : RS} (n : Nat) {ds : List D} {vs : List Value} (h : relAll s ds vs) : relAll s (ds.take n) (vs.take n) := by
  refine relAll_of (by simp [relAll_length h]) fun i d v hd hv => ?_
  simp only [List.getElem?_take] at hd hv
  split at hd
  · rename_i hi
    rw [if_pos hi] at hv
    obtain ⟨u, hu, hr⟩ := relAll_get h i d hd
    rw [hu] at hv; cases hv; exact hr
  · cases hd
theorem relAll_drop {s : RS} (n : Nat) {ds : List D} {vs : List Value} (h : relAll s ds vs) : relAll s (ds.drop n) (vs.drop n) := by
  refine relAll_of (by simp [relAll_length h]) fun i d v hd hv => ?_
  simp only [List.getElem?_drop] at hd hv
  obtain ⟨u, hu, hr⟩ := relAll_get h _ d hd
  rw [hu] at hv; cases hv; exact hr
theorem relAll_set {s : RS} {ds : List D} {vs : List Value} (h : relAll s ds vs) (n : Nat) {d : D} {v : Value} (hd : rel s d v) : relAll s (ds.set n d) (vs.set n v) := by
  refine relAll_of (by simp [relAll_length h]) fun i d' v' h1 h2 => ?_
  simp only [List.getElem?_set] at h1 h2
  have hlen := relAll_length h
  split at h1
  · rename_i hn
    subst hn
    rw [if_pos rfl] at h2
    split at h1
    · rename_i hl
      rw [if_pos (by omega)] at h2
      cases h1; cases h2; exact hd
    · cases h1
  · rename_i hn
    rw [if_neg hn] at h2
    obtain ⟨u, hu, hr⟩ := relAll_get h i d' h1
    rw [hu] at h2; cases h2; exact hr

/-- Which blocks the owned objects lie in. -/
def owned (s : RS) (k : Nat) : Prop := ∃ id, id < s.nx ∧ s.H id ≠ none ∧ blockOf (s.κ id) = some k

/-- What may become of an object. -/
def objLe (o o' : Option HObj) (v v' : Value) : Prop :=
  match o with
  | none => o' = none
  | some (.box e _) => o' = none ∨ ∃ cs', o' = some (.box e cs') ∧ v' = v
  | some (.row e n _) => o' = none ∨ ∃ n' cs', o' = some (.row e n' cs') ∧ n ≤ n' ∧ (n = n' → v' = v)
  | some (.map _) => o' = none ∨ ∃ es', o' = some (.map es') ∧ v' = v
  | some (.raw _) => o' = none ∨ ∃ q', o' = some (.raw q') ∧ v' = v

theorem objLe.refl (o : Option HObj) (v : Value) : objLe o o v v := by
  unfold objLe
  cases o with
  | none => rfl
  | some o => cases o <;> simp
theorem objLe.trans {o o' o'' : Option HObj} {v v' v'' : Value} (h : objLe o o' v v') (h' : objLe o' o'' v' v'') : objLe o o'' v v'' := by
  unfold objLe at *
  cases o with
  | none => simp only at h; subst h; simpa using h'
  | some o =>
    cases o with
    | box e cs =>
      rcases h with h | ⟨cs', h, hv⟩
      · subst h; exact .inl (by simpa using h')
      · subst h
        rcases h' with h' | ⟨cs'', h', hv'⟩
        · exact .inl h'
        · exact .inr ⟨cs'', h', hv'.trans hv⟩
    | row e n cs =>
      rcases h with h | ⟨n', cs', h, hn, hv⟩
      · subst h; exact .inl (by simpa using h')
      · subst h
        rcases h' with h' | ⟨n'', cs'', h', hn', hv'⟩
        · exact .inl h'
        · exact .inr ⟨n'', cs'', h', by omega, fun e => (hv' (by omega)).trans (hv (by omega))⟩
    | map es =>
      rcases h with h | ⟨es', h, hv⟩
      · subst h; exact .inl (by simpa using h')
      · subst h
        rcases h' with h' | ⟨es'', h', hv'⟩
        · exact .inl h'
        · exact .inr ⟨es'', h', hv'.trans hv⟩
    | raw q =>
      rcases h with h | ⟨es', h, hv⟩
      · subst h; exact .inl (by simpa using h')
      · subst h
        rcases h' with h' | ⟨es'', h', hv'⟩
        · exact .inl h'
        · exact .inr ⟨es'', h', hv'.trans hv⟩

/-- From one state to a later one. -/
structure Step (s : RS) (w : World) (s' : RS) (w' : World) : Prop where
  os : w'.os = w.os
  tape : w'.tape = w.tape
  output : w'.output = w.output
  size : w.heap.size ≤ w'.heap.size
  nx : s.nx ≤ s'.nx
  mem : ∀ a v, s.m a = some v → s'.m a = some v
  new : ∀ a v, s'.m a = some v → s.m a = some v ∨ w.heap.size ≤ a.block ∨ owned s a.block
  objs : ∀ id, id < s.nx → objLe (s.H id) (s'.H id) (s.κ id) (s'.κ id)
  keep : ∀ k, k < w.heap.size → ¬ owned s k → w'.heap[k]? = w.heap[k]?
  own : ∀ k, owned s' k → owned s k ∨ w.heap.size ≤ k

theorem Step.refl (s : RS) (w : World) : Step s w s w :=
  ⟨rfl, rfl, rfl, Nat.le_refl _, Nat.le_refl _, fun _ _ h => h, fun _ _ h => .inl h, fun _ _ => objLe.refl _ _, fun _ _ _ => rfl, fun _ h => .inl h⟩
theorem Step.trans {s s' s'' : RS} {w w' w'' : World} (h : Step s w s' w') (h' : Step s' w' s'' w'') : Step s w s'' w'' := by
  refine ⟨h'.os.trans h.os, h'.tape.trans h.tape, h'.output.trans h.output, Nat.le_trans h.size h'.size, Nat.le_trans h.nx h'.nx,
    fun a v hm => h'.mem a v (h.mem a v hm), fun a v hm => ?_, fun id hid => (h.objs id hid).trans (h'.objs id (Nat.lt_of_lt_of_le hid h.nx)),
    fun k hk ho => ?_, fun k ho => ?_⟩
  · rcases h'.new a v hm with h1 | h1 | h1
    · exact h.new a v h1
    · exact .inr (.inl (Nat.le_trans h.size h1))
    · rcases h.own _ h1 with h2 | h2
      · exact .inr (.inr h2)
      · exact .inr (.inl h2)
  · rw [h'.keep k (Nat.lt_of_lt_of_le hk h.size) (fun h1 => by
      rcases h.own k h1 with h2 | h2
      · exact ho h2
      · omega)]
    exact h.keep k hk ho
  · rcases h'.own k ho with h1 | h1
    · exact h.own k h1
    · exact .inr (Nat.le_trans h.size h1)

/-- What rel needs of a later state. -/
structure Later (s s' : RS) : Prop where
  nx : s.nx ≤ s'.nx
  mem : ∀ a v, s.m a = some v → s'.m a = some v
  objs : ∀ id, id < s.nx → objLe (s.H id) (s'.H id) (s.κ id) (s'.κ id)
theorem Step.later {s s' : RS} {w w' : World} (h : Step s w s' w') : Later s s' := ⟨h.nx, h.mem, h.objs⟩
theorem cellsAt.later {m m' : Addr → Option Value} (hm : ∀ a v, m a = some v → m' a = some v) {a : Addr} {cs : List Value} (h : cellsAt m a cs) : cellsAt m' a cs :=
  fun j c hc => hm _ _ (h j c hc)

mutual
theorem rel.later {s s' : RS} (h : Later s s') : ∀ (d : D) (v : Value), rel s d v → rel s' d v
  | .any, _, _ => by simp [rel]
  | .int k n, v, hr => by simpa [rel] using hr
  | .bool b, v, hr => by simpa [rel] using hr
  | .str x, v, hr => by simpa [rel] using hr
  | .agg ds, v, hr => by
    simp only [rel] at hr ⊢
    obtain ⟨vs, h1, h2, h3⟩ := hr
    exact ⟨vs, h1, relAll.later h ds vs h2, h3⟩
  | .tup ds, v, hr => by
    simp only [rel] at hr ⊢
    obtain ⟨vs, h1, h2⟩ := hr
    exact ⟨vs, h1, relAll.later h ds vs h2⟩
  | .nil, v, hr => by simpa [rel] using hr
  | .rsl nn sz els, v, hr => by
    simp only [rel] at hr ⊢
    rcases hr with hr | ⟨a, cap, vs, h1, h2, h3, h4, h5⟩
    · exact .inl hr
    · exact .inr ⟨a, cap, vs, h1, h2, h3, relAll.later h els vs h4, fun i u hu => ⟨(h5 i u hu).1, (h5 i u hu).2.later h.mem⟩⟩
  | .nptr, v, hr => by simpa [rel] using hr
  | .rptr d, v, hr => by
    simp only [rel] at hr ⊢
    obtain ⟨a, u, h1, h2, h3⟩ := hr
    exact ⟨a, u, h1, rel.later h d u h2, h3.later h.mem⟩
  | .nfun, v, hr => by simpa [rel] using hr
  | .fn f cap, v, hr => by
    simp only [rel] at hr ⊢
    obtain ⟨vs, h1, h2⟩ := hr
    exact ⟨vs, h1, relAll.later h cap vs h2⟩
  | .osl id n, v, hr => by
    simp only [rel] at hr ⊢
    obtain ⟨h1, h0, h2⟩ := hr
    refine ⟨Nat.lt_of_lt_of_le h1 h.nx, h0, fun e k cs hH => ?_⟩
    have ho := h.objs id h1
    unfold objLe at ho
    cases hs : s.H id with
    | none => rw [hs] at ho; simp only at ho; rw [ho] at hH; cases hH
    | some o =>
      rw [hs] at ho
      cases o with
      | box e' cs' => rcases ho with ho | ⟨x, ho, _⟩ <;> rw [ho] at hH <;> cases hH
      | map es => rcases ho with ho | ⟨x, ho, _⟩ <;> rw [ho] at hH <;> cases hH
      | raw q => rcases ho with ho | ⟨x, ho, _⟩ <;> rw [ho] at hH <;> cases hH
      | row e' n' cs' =>
        rcases ho with ho | ⟨n'', cs'', ho, hn, hv⟩
        · rw [ho] at hH; cases hH
        · rw [ho] at hH; cases hH
          obtain ⟨h3, h4⟩ := h2 _ _ _ hs
          exact ⟨by omega, fun e => by rw [hv (by omega)]; exact h4 (by omega)⟩
  | .ptr id off, v, hr => by
    simp only [rel] at hr ⊢
    obtain ⟨h1, h0, h2⟩ := hr
    refine ⟨Nat.lt_of_lt_of_le h1 h.nx, h0, fun e cs hH => ?_⟩
    have ho := h.objs id h1
    unfold objLe at ho
    cases hs : s.H id with
    | none => rw [hs] at ho; simp only at ho; rw [ho] at hH; cases hH
    | some o =>
      rw [hs] at ho
      cases o with
      | row e' n' cs' => rcases ho with ho | ⟨_, x, ho, _⟩ <;> rw [ho] at hH <;> cases hH
      | map es => rcases ho with ho | ⟨x, ho, _⟩ <;> rw [ho] at hH <;> cases hH
      | raw q => rcases ho with ho | ⟨x, ho, _⟩ <;> rw [ho] at hH <;> cases hH
      | box e' cs' =>
        rcases ho with ho | ⟨cs'', ho, hv⟩
        · rw [ho] at hH; cases hH
        · rw [ho] at hH; cases hH
          obtain ⟨b, h3, h4⟩ := h2 _ _ hs
          exact ⟨b, by rw [hv]; exact h3, h4⟩
  | .eptr id n off, v, hr => by
    simp only [rel] at hr ⊢
    obtain ⟨h1, h0, h2⟩ := hr
    refine ⟨Nat.lt_of_lt_of_le h1 h.nx, h0, fun e k cs hH => ?_⟩
    have ho := h.objs id h1
    unfold objLe at ho
    cases hs : s.H id with
    | none => rw [hs] at ho; simp only at ho; rw [ho] at hH; cases hH
    | some o =>
      rw [hs] at ho
      cases o with
      | box e' cs' => rcases ho with ho | ⟨x, ho, _⟩ <;> rw [ho] at hH <;> cases hH
      | map es => rcases ho with ho | ⟨x, ho, _⟩ <;> rw [ho] at hH <;> cases hH
      | raw q => rcases ho with ho | ⟨x, ho, _⟩ <;> rw [ho] at hH <;> cases hH
      | row e' n' cs' =>
        rcases ho with ho | ⟨n'', cs'', ho, hn, hv⟩
        · rw [ho] at hH; cases hH
        · rw [ho] at hH; cases hH
          obtain ⟨h3, h4⟩ := h2 _ _ _ hs
          exact ⟨by omega, fun e => by rw [hv (by omega)]; exact h4 (by omega)⟩
  | .mp id, v, hr => by
    simp only [rel] at hr ⊢
    obtain ⟨h1, h0, h2⟩ := hr
    refine ⟨Nat.lt_of_lt_of_le h1 h.nx, h0, fun es hH => ?_⟩
    have ho := h.objs id h1
    unfold objLe at ho
    cases hs : s.H id with
    | none => rw [hs] at ho; simp only at ho; rw [ho] at hH; cases hH
    | some o =>
      rw [hs] at ho
      cases o with
      | row e' n' cs' => rcases ho with ho | ⟨_, x, ho, _⟩ <;> rw [ho] at hH <;> cases hH
      | box e' cs' => rcases ho with ho | ⟨x, ho, _⟩ <;> rw [ho] at hH <;> cases hH
      | raw q => rcases ho with ho | ⟨x, ho, _⟩ <;> rw [ho] at hH <;> cases hH
      | map es' =>
        rcases ho with ho | ⟨es'', ho, hv⟩
        · rw [ho] at hH; cases hH
        · rw [ho] at hH; cases hH
          rw [hv]; exact h2 _ hs
  | .nmp, v, hr => by simpa [rel] using hr
  | .e0, v, hr => by simpa [rel] using hr
  | .fsl sz els, v, hr => by
    simp only [rel] at hr ⊢
    rcases hr with hr | ⟨a, vs, h1, h3, h4, h5⟩
    · exact .inl hr
    exact .inr ⟨a, vs, h1, h3, relAll.later h els vs h4, fun i u hu => ⟨(h5 i u hu).1, (h5 i u hu).2.later h.mem⟩⟩
  | .it id, v, hr => by
    simp only [rel] at hr ⊢
    obtain ⟨h1, h0, h2⟩ := hr
    refine ⟨Nat.lt_of_lt_of_le h1 h.nx, h0, fun q hH => ?_⟩
    have ho := h.objs id h1
    unfold objLe at ho
    cases hs : s.H id with
    | none => rw [hs] at ho; simp only at ho; rw [ho] at hH; cases hH
    | some o =>
      rw [hs] at ho
      cases o with
      | row e' n' cs' => rcases ho with ho | ⟨_, x, ho, _⟩ <;> rw [ho] at hH <;> cases hH
      | box e' cs' => rcases ho with ho | ⟨x, ho, _⟩ <;> rw [ho] at hH <;> cases hH
      | map es => rcases ho with ho | ⟨x, ho, _⟩ <;> rw [ho] at hH <;> cases hH
      | raw q' =>
        rcases ho with ho | ⟨q'', ho, hv⟩
        · rw [ho] at hH; cases hH
        · rw [ho] at hH; cases hH
          rw [hv]; exact h2 _ hs
theorem relAll.later {s s' : RS} (h : Later s s') : ∀ (ds : List D) (vs : List Value), relAll s ds vs → relAll s' ds vs
  | [], vs, hr => by simpa [relAll] using hr
  | d :: ds, vs, hr => by
    simp only [relAll] at hr ⊢
    obtain ⟨v, r, h1, h2, h3⟩ := hr
    exact ⟨v, r, h1, rel.later h d v h2, relAll.later h ds r h3⟩
end

/-- How many cells a value of a type takes, by the program's table. -/
def sizeT (P : Program) (t : TypeId) : Nat := ((P.info? t).map (·.size)).getD 0

/-- An owned object lies where κ says, and its cells are as the abstract ones. -/
def objOK (P : Program) (s : RS) (w : World) (v : Value) : HObj → Prop
  | .box e cs => ∃ b vs, v = .pointer (some ⟨b, 0, none⟩) ∧ w.heap[b]? = some (.cells (List.toArray vs) e (0, 0)) ∧ relAll s cs vs ∧ ones vs
  | .row e n cs => ∃ vs, w.ownsRow 0 e (sizeT P e) v n vs ∧ relAll s cs vs ∧ ones vs
  | .map es => ∃ (r : Nat) (ens : Array MapEntry) (clock : Nat), v = .map (some r) ∧ w.heap[r]? = some (.map ens clock) ∧
      relAll s (es.map (·.1)) (ens.toList.map (·.key)) ∧ relAll s (es.map (·.2)) (ens.toList.map (·.val))
  | .raw o => ∃ r, v = .pointer (some ⟨r, 0, none⟩) ∧ w.heap[r]? = some o

/-- No part lies in an object of the call's own. -/
def pureD : D → Bool
  | .osl .. | .ptr .. | .eptr .. | .mp _ | .it _ => false
  | .agg ds => pureL ds
  | .tup ds => pureL ds
  | .rsl _ _ els => pureL els
  | .fsl _ els => pureL els
  | .rptr d => pureD d
  | .fn _ cap => pureL cap
  | _ => true
where pureL : List D → Bool
  | [] => true
  | d :: ds => pureD d && pureL ds
/-- What the package variables that are only read hold. -/
def globD (_ : Nat) : D := .any
theorem pure_globD (g : Nat) : pureD (globD g) = true := rfl
/-- The state's memory is the world's. -/
structure RH (P : Program) (s : RS) (w : World) : Prop where
  mem : ∀ a v, s.m a = some v → w.cell? a = some v ∧ ¬ owned s a.block
  obj : ∀ id o, s.H id = some o → id < s.nx ∧ objOK P s w (s.κ id) o
  apart : ∀ i j, s.H i ≠ none → s.H j ≠ none → i ≠ j → blockOf (s.κ i) ≠ none → blockOf (s.κ i) ≠ blockOf (s.κ j)
  glob : ∀ g, rel s (globD g) (.pointer (some ⟨g, 0, none⟩))

end Go.Proofs.Ytjibdljdkgedcaa.Abs
