/-
  What becomes of a state when an object is made, an object is written, or memory that is only read is made. No condition.
-/
import Derived.Test.YtjibdljdkgedcaaAbs2
set_option linter.unusedSimpArgs false
set_option linter.unusedVariables false
namespace Go.Proofs.Ytjibdljdkgedcaa.Abs
open Go.RowKit

theorem ownsRow_heap {w w' : World} {base : Nat} {e : TypeId} {sz : Nat} {v : Value} {n : Nat} {vs : List Value}
    (hb : ∀ b, blockOf v = some b → w'.heap[b]? = w.heap[b]?) (h : w.ownsRow base e sz v n vs) : w'.ownsRow base e sz v n vs := by
  refine ⟨h.1, ?_⟩
  rcases h.2 with h2 | ⟨g, cap, cur, hv, hg, hh, r⟩
  · exact .inl h2
  · exact .inr ⟨g, cap, cur, hv, hg, by rw [hb g (by rw [hv]; rfl)]; exact hh, r⟩

theorem objOK.mono {P : Program} {s s' : RS} {w w' : World} {v : Value} {o : HObj} (hl : Later s s')
    (hb : ∀ b, blockOf v = some b → w'.heap[b]? = w.heap[b]?) (h : objOK P s w v o) : objOK P s' w' v o := by
  cases o with
  | box e cs =>
    obtain ⟨b, vs, hv, hh, hr, h1⟩ := h
    exact ⟨b, vs, hv, by rw [hb b (by rw [hv]; rfl)]; exact hh, relAll.later hl _ _ hr, h1⟩
  | row e n cs =>
    obtain ⟨vs, ho, hr, h1⟩ := h
    exact ⟨vs, ownsRow_heap hb ho, relAll.later hl _ _ hr, h1⟩
  | map es =>
    obtain ⟨r, ens, c, hv, hh, h1, h2⟩ := h
    exact ⟨r, ens, c, hv, by rw [hb r (by rw [hv]; rfl)]; exact hh, relAll.later hl _ _ h1, relAll.later hl _ _ h2⟩
  | raw q =>
    obtain ⟨r, hv, hh⟩ := h
    exact ⟨r, hv, by rw [hb r (by rw [hv]; rfl)]; exact hh⟩
theorem lt_of_heap {w : World} {b : Nat} {o : Obj} (h : w.heap[b]? = some o) : b < w.heap.size := (Array.getElem?_eq_some_iff.1 h).1
theorem objOK.lt {P : Program} {s : RS} {w : World} {v : Value} {o : HObj} (h : objOK P s w v o) {b : Nat} (hb : blockOf v = some b) : b < w.heap.size := by
  cases o with
  | box e cs =>
    obtain ⟨b', vs, hv, hh, _⟩ := h
    rw [hv] at hb; cases hb; exact lt_of_heap hh
  | row e n cs =>
    obtain ⟨vs, ho, _⟩ := h
    rcases ho.2 with ⟨hv, _⟩ | ⟨g, cap, cur, hv, _, hh, _⟩
    · rw [hv] at hb; cases hb
    · rw [hv] at hb; cases hb; exact lt_of_heap hh
  | map es =>
    obtain ⟨r, ens, c, hv, hh, _⟩ := h
    rw [hv] at hb; cases hb; exact lt_of_heap hh
  | raw q =>
    obtain ⟨r, hv, hh⟩ := h
    rw [hv] at hb; cases hb; exact lt_of_heap hh
theorem RH.owned_lt {P : Program} {s : RS} {w : World} (h : RH P s w) {k : Nat} (ho : owned s k) : k < w.heap.size := by
  obtain ⟨id, _, hH, hb⟩ := ho
  cases hs : s.H id with
  | none => exact (hH hs).elim
  | some o => exact (h.obj id o hs).2.lt hb
theorem RH.mem_lt {P : Program} {s : RS} {w : World} (h : RH P s w) {a : Addr} {v : Value} (hm : s.m a = some v) : a.block < w.heap.size :=
  World.block_lt_of_cell? w a (h.mem a v hm).1
theorem cell_of_heap {w w' : World} {a : Addr} (h : w'.heap[a.block]? = w.heap[a.block]?) : w'.cell? a = w.cell? a := World.cell?_of_block h

/-- The world has grown: what was there is as it was. -/
structure Grew (w w' : World) : Prop where
  os : w'.os = w.os
  tape : w'.tape = w.tape
  output : w'.output = w.output
  size : w.heap.size ≤ w'.heap.size
  old : ∀ k, k < w.heap.size → w'.heap[k]? = w.heap[k]?
theorem Grew.refl (w : World) : Grew w w := ⟨rfl, rfl, rfl, Nat.le_refl _, fun _ _ => rfl⟩
theorem Grew.alloc (w : World) (o : Obj) : Grew w (w.alloc o) := ⟨rfl, rfl, rfl, by simp, fun k hk => Below.heap_alloc w o k hk⟩
theorem Grew.drew {w w' : World} (h : Grew w w') : Grew w.drew w' := ⟨h.os, h.tape, h.output, h.size, h.old⟩
theorem Grew.of_drew {w w' : World} (h : Grew w.drew w') : Grew w w' := ⟨h.os, h.tape, h.output, h.size, h.old⟩

def RS.add (s : RS) (v : Value) (o : HObj) : RS := { s with κ := fun j => if j = s.nx then v else s.κ j, H := updH s.H s.nx (some o), nx := s.nx + 1 }

theorem RH.fresh {P : Program} {s : RS} {w : World} (h : RH P s w) {i : Nat} (hi : s.H i ≠ none) : i < s.nx := by
  cases hs : s.H i with
  | none => exact (hi hs).elim
  | some o => exact (h.obj i o hs).1

theorem later_add {P : Program} {s : RS} {w : World} (_h : RH P s w) (v : Value) (o : HObj) : Later s (s.add v o) := by
  refine ⟨by simp [RS.add], fun a u hm => hm, fun id hid => ?_⟩
  have : id ≠ s.nx := by omega
  simp only [RS.add, updH, if_neg this]
  exact objLe.refl _ _

/-- A new object of the call's own. -/
theorem new_obj {P : Program} {s : RS} {w w' : World} (h : RH P s w) (hg : Grew w w') (o : HObj) (v : Value)
    (hb : ∀ b, blockOf v = some b → w.heap.size ≤ b) (hok : objOK P (s.add v o) w' v o) :
    Step s w (s.add v o) w' ∧ RH P (s.add v o) w' := by
  have hl := later_add h v o
  have hown : ∀ k, owned (s.add v o) k → owned s k ∨ w.heap.size ≤ k := by
    rintro k ⟨id, hid, hH, hk⟩
    by_cases hi : id = s.nx
    · subst hi
      simp only [RS.add, if_true] at hk
      exact .inr (hb k hk)
    · simp only [RS.add, updH, if_neg hi] at hH hk
      exact .inl ⟨id, h.fresh hH, hH, hk⟩
  refine ⟨⟨hg.os, hg.tape, hg.output, hg.size, hl.nx, hl.mem, fun a u hm => .inl hm, hl.objs, fun k hk _ => hg.old k hk, hown⟩, ?_, ?_, ?_, fun g => rel.later hl _ _ (h.glob g)⟩
  · intro a u hm
    have hlt := h.mem_lt hm
    obtain ⟨h1, h2⟩ := h.mem a u hm
    refine ⟨by rw [cell_of_heap (hg.old _ hlt)]; exact h1, fun ho => ?_⟩
    rcases hown _ ho with h3 | h3
    · exact h2 h3
    · omega
  · intro id o' ho'
    by_cases hi : id = s.nx
    · subst hi
      simp only [RS.add, updH, if_true, Option.some.injEq] at ho' ⊢
      subst ho'
      exact ⟨by omega, hok⟩
    · simp only [RS.add, updH, if_neg hi] at ho' ⊢
      obtain ⟨h1, h2⟩ := h.obj id o' ho'
      exact ⟨by omega, h2.mono hl fun b hb' => hg.old b (h2.lt hb')⟩
  · intro i j hi hj hij hbi
    by_cases h1 : i = s.nx
    · subst h1
      have h2 : j ≠ s.nx := fun e => hij e.symm
      simp only [RS.add, updH, if_true, if_neg h2] at hi hj hbi ⊢
      intro e
      cases hbv : blockOf v with
      | none => exact hbi hbv
      | some b =>
        cases hs : s.H j with
        | none => exact hj hs
        | some oj =>
          have := (h.obj j oj hs).2.lt (b := b) (by rw [← e, hbv])
          have := hb b hbv
          omega
    · by_cases h2 : j = s.nx
      · subst h2
        simp only [RS.add, updH, if_true, if_neg h1] at hi hj hbi ⊢
        intro e
        cases hbv : blockOf v with
        | none => rw [hbv] at e; exact hbi e
        | some b =>
          cases hs : s.H i with
          | none => exact hi hs
          | some oi =>
            have := (h.obj i oi hs).2.lt (b := b) (by rw [e, hbv])
            have := hb b hbv
            omega
      · simp only [RS.add, updH, if_neg h1, if_neg h2] at hi hj hbi ⊢
        exact h.apart i j hi hj hij hbi

def RS.grow (s : RS) (w w' : World) : RS := { s with m := fun a => if a.block < w.heap.size then s.m a else w'.cell? a }

/-- New memory that is only read from now on. -/
theorem new_mem {P : Program} {s : RS} {w w' : World} (h : RH P s w) (hg : Grew w w') :
    Step s w (s.grow w w') w' ∧ RH P (s.grow w w') w' := by
  have hmem : ∀ a v, s.m a = some v → (s.grow w w').m a = some v := by
    intro a v hm
    simp only [RS.grow, if_pos (h.mem_lt hm)]
    exact hm
  have hl : Later s (s.grow w w') := ⟨Nat.le_refl _, hmem, fun id _ => objLe.refl _ _⟩
  refine ⟨⟨hg.os, hg.tape, hg.output, hg.size, Nat.le_refl _, hmem, fun a v hm => ?_, fun id _ => objLe.refl _ _, fun k hk _ => hg.old k hk, fun k ho => .inl ho⟩, ?_, ?_, ?_, fun g => rel.later hl _ _ (h.glob g)⟩
  · simp only [RS.grow] at hm
    split at hm
    · exact .inl hm
    · exact .inr (.inl (by omega))
  · intro a v hm
    simp only [RS.grow] at hm
    split at hm
    · rename_i hlt
      obtain ⟨h1, h2⟩ := h.mem a v hm
      exact ⟨by rw [cell_of_heap (hg.old _ hlt)]; exact h1, h2⟩
    · rename_i hlt
      refine ⟨hm, fun ho => hlt (h.owned_lt ho)⟩
  · intro id o ho
    obtain ⟨h1, h2⟩ := h.obj id o ho
    exact ⟨h1, h2.mono hl fun b hb' => hg.old b (h2.lt hb')⟩
  · exact h.apart

/-- A draw. -/
theorem drawn_state {P : Program} {s : RS} {w w' : World} (h : RH P s w) (hh : w'.heap = w.heap) (ho : w'.os = w.os) (ht : w'.tape = w.tape) (hout : w'.output = w.output) :
    Step s w s w' ∧ RH P s w' := by
  refine ⟨⟨ho, ht, hout, by rw [hh]; exact Nat.le_refl _, Nat.le_refl _, fun _ _ h => h, fun _ _ h => .inl h, fun _ _ => objLe.refl _ _, fun k _ _ => by rw [hh], fun _ h => .inl h⟩, ?_, ?_, h.apart, h.glob⟩
  · intro a v hm
    obtain ⟨h1, h2⟩ := h.mem a v hm
    exact ⟨by rw [cell_of_heap (w := w) (w' := w') (by rw [hh])]; exact h1, h2⟩
  · intro id o hs
    obtain ⟨h1, h2⟩ := h.obj id o hs
    exact ⟨h1, h2.mono ⟨Nat.le_refl _, fun _ _ h => h, fun _ _ => objLe.refl _ _⟩ fun b _ => by rw [hh]⟩

def RS.set (s : RS) (id : Nat) (v : Value) (o : HObj) : RS := { s with κ := fun j => if j = id then v else s.κ j, H := updH s.H id (some o) }

/-- An object of the call's own is written, or grows. -/
theorem set_obj {P : Program} {s : RS} {w w' : World} (h : RH P s w) (id : Nat) (o o' : HObj) (v : Value) (hid : s.H id = some o)
    (hos : w'.os = w.os) (ht : w'.tape = w.tape) (hout : w'.output = w.output) (hsz : w.heap.size ≤ w'.heap.size)
    (hold : ∀ k, k < w.heap.size → some k ≠ blockOf (s.κ id) → w'.heap[k]? = w.heap[k]?)
    (hle : objLe (some o) (some o') (s.κ id) v)
    (hb : ∀ b, blockOf v = some b → blockOf (s.κ id) = some b ∨ w.heap.size ≤ b) (hok : Later s (s.set id v o') → objOK P (s.set id v o') w' v o') :
    Step s w (s.set id v o') w' ∧ RH P (s.set id v o') w' := by
  have hidn := (h.obj id o hid).1
  have hl : Later s (s.set id v o') := by
    refine ⟨Nat.le_refl _, fun a u hm => hm, fun j hj => ?_⟩
    by_cases hji : j = id
    · subst hji; simp only [RS.set, updH, if_true]; rw [hid]; exact hle
    · simp only [RS.set, updH, if_neg hji]; exact objLe.refl _ _
  have hok := hok hl
  have hown : ∀ k, owned (s.set id v o') k → owned s k ∨ w.heap.size ≤ k := by
    rintro k ⟨j, hj, hH, hk⟩
    by_cases hji : j = id
    · subst hji
      simp only [RS.set, if_true] at hk
      rcases hb k hk with h1 | h1
      · exact .inl ⟨j, hidn, by rw [hid]; simp, h1⟩
      · exact .inr h1
    · simp only [RS.set, updH, if_neg hji] at hH hk
      exact .inl ⟨j, hj, hH, hk⟩
  refine ⟨⟨hos, ht, hout, hsz, hl.nx, hl.mem, fun a u hm => .inl hm, hl.objs, fun k hk ho => hold k hk (fun e => ho ⟨id, hidn, by rw [hid]; simp, e.symm⟩), hown⟩, ?_, ?_, ?_, fun g => rel.later hl _ _ (h.glob g)⟩
  · intro a u hm
    have hlt := h.mem_lt hm
    obtain ⟨h1, h2⟩ := h.mem a u hm
    have hne : some a.block ≠ blockOf (s.κ id) := fun e => h2 ⟨id, hidn, by rw [hid]; simp, e.symm⟩
    refine ⟨by rw [cell_of_heap (hold _ hlt hne)]; exact h1, fun ho => ?_⟩
    rcases hown _ ho with h3 | h3
    · exact h2 h3
    · omega
  · intro j oj ho'
    by_cases hji : j = id
    · subst hji
      simp only [RS.set, updH, if_true, Option.some.injEq] at ho' ⊢
      subst ho'
      exact ⟨hidn, hok⟩
    · simp only [RS.set, updH, if_neg hji] at ho' ⊢
      obtain ⟨h1, h2⟩ := h.obj j oj ho'
      refine ⟨h1, h2.mono hl fun b hb' => hold b (h2.lt hb') fun e => ?_⟩
      exact h.apart j id (by rw [ho']; simp) (by rw [hid]; simp) hji (by rw [hb']; simp) (by rw [hb', e])
  · intro i j hi hj hij hbi
    by_cases h1 : i = id
    · subst h1
      have h2 : j ≠ i := fun e => hij e.symm
      simp only [RS.set, updH, if_true, if_neg h2] at hi hj hbi ⊢
      intro e
      cases hbv : blockOf v with
      | none => exact hbi hbv
      | some b =>
        cases hs : s.H j with
        | none => exact hj hs
        | some oj =>
          have hlt := (h.obj j oj hs).2.lt (b := b) (by rw [← e, hbv])
          rcases hb b hbv with h3 | h3
          · exact h.apart j i hj (by rw [hid]; simp) h2 (by rw [← e, hbv]; simp) (by rw [← e, hbv, h3])
          · omega
    · by_cases h2 : j = id
      · subst h2
        simp only [RS.set, updH, if_true, if_neg h1] at hi hj hbi ⊢
        intro e
        cases hbv : blockOf v with
        | none => rw [hbv] at e; exact hbi e
        | some b =>
          cases hs : s.H i with
          | none => exact hi hs
          | some oi =>
            have hlt := (h.obj i oi hs).2.lt (b := b) (by rw [e, hbv])
            rcases hb b hbv with h3 | h3
            · exact h.apart i j hi (by rw [hid]; simp) h1 hbi (by rw [e, hbv, h3])
            · omega
      · simp only [RS.set, updH, if_neg h1, if_neg h2] at hi hj hbi ⊢
        exact h.apart i j hi hj hij hbi

end Go.Proofs.Ytjibdljdkgedcaa.Abs
