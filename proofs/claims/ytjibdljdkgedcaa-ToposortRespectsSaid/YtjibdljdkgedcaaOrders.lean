/-
  Orders that respect the pairs: when there is one; how many there are. Plain Lean.
-/
import Derived.Test.YtjibdljdkgedcaaPaths
set_option linter.unusedSimpArgs false
set_option linter.unusedVariables false
namespace Go.Proofs.Ytjibdljdkgedcaa
open Abs
namespace Topo
theorem inL_mem (row : List Nat) (k : Nat) : inL row k = true ↔ k ∈ row := by
  unfold inL
  rw [List.any_eq_true]
  constructor
  · rintro ⟨y, hy, h⟩
    have h : (y : Int) = k := by simpa using h
    have : y = k := by omega
    exact this ▸ hy
  · intro h; exact ⟨k, h, by simp⟩
theorem freeR_iff {n : Nat} {l : List Pr} (hl : okL n l) (row : List Nat) (k : Nat) : freeR row k l = true ↔ k ∉ row ∧ ∀ a, adj l a k → a ∈ row := by
  unfold freeR
  rw [Bool.and_eq_true, List.all_eq_true, Bool.not_eq_true', ← Bool.not_eq_true, inL_mem]
  refine and_congr_right fun _ => ⟨?_, ?_⟩
  · rintro h a ⟨p, hp, h1, h2⟩
    have := h p hp
    rw [decide_eq_true h2, h1] at this
    have : inL row a = true := by simpa using this
    exact (inL_mem row a).1 this
  · intro h p hp
    have hb := (okP_iff n p).1 (hl p hp)
    by_cases hk : p.2 = (k : Int)
    · have := h p.1.toNat ⟨p, hp, by omega, hk⟩
      have := (inL_mem row p.1.toNat).2 this
      rw [show ((p.1.toNat : Nat) : Int) = p.1 by omega] at this
      rw [this]; simp
    · rw [decide_eq_false hk]; rfl
/-- A beginning of an order. -/
structure Beg (n : Nat) (l : List Pr) (row : List Nat) : Prop where
  nodup : row.Nodup
  lt : ∀ x ∈ row, x < n
  before : ∀ i a, (hi : i < row.length) → adj l a row[i] → ∃ j, ∃ hj : j < row.length, j < i ∧ row[j] = a
theorem beg_nil (n : Nat) (l : List Pr) : Beg n l [] := ⟨List.nodup_nil, fun _ h => (by cases h), fun _ _ hi => (by simp at hi)⟩
theorem beg_snoc {n : Nat} {l : List Pr} (hl : okL n l) {row : List Nat} (h : Beg n l row) {k : Nat} (hk : k < n) (hf : freeR row k l = true) : Beg n l (row ++ [k]) := by
  obtain ⟨h1, h2⟩ := (freeR_iff hl row k).1 hf
  refine ⟨?_, ?_, ?_⟩
  · rw [List.nodup_append]
    refine ⟨h.nodup, by simp, fun a ha b hb => ?_⟩
    simp at hb; subst hb
    intro e; subst e; exact h1 ha
  · intro x hx
    rcases List.mem_append.1 hx with hx | hx
    · exact h.lt x hx
    · simp at hx; omega
  · intro i a hi ha
    have hi' : i < row.length + 1 := by simpa using hi
    by_cases hir : i < row.length
    · rw [List.getElem_append_left hir] at ha
      obtain ⟨j, hj, hji, he⟩ := h.before i a hir ha
      exact ⟨j, by simp; omega, hji, by rw [List.getElem_append_left hj]; exact he⟩
    · have hie : i = row.length := by omega
      subst hie
      have ha : adj l a k := by simpa using ha
      obtain ⟨j, hj, he⟩ := List.mem_iff_getElem.1 (h2 a ha)
      exact ⟨j, by simp; omega, hj, by rw [List.getElem_append_left hj]; exact he⟩
/-- Nothing is free: there is a cycle. -/
theorem stuck {n : Nat} {l : List Pr} (hl : okL n l) {row : List Nat} (hr : row.length < n) (h : ∀ k, k < n → freeR row k l = false) : ¬ Acyc l := by
  obtain ⟨x, hx, hxr⟩ : ∃ x, x < n ∧ x ∉ row := by
    apply Classical.byContradiction
    intro hc
    have := le_of_all n row (fun x hx => Classical.byContradiction fun hn => hc ⟨x, hx, hn⟩)
    omega
  have next : ∀ y : { y : Nat // y < n ∧ y ∉ row }, ∃ z : { y : Nat // y < n ∧ y ∉ row }, adj l z.1 y.1 := by
    rintro ⟨y, hy, hyr⟩
    apply Classical.byContradiction
    intro hc
    have : freeR row y l = true := (freeR_iff hl row y).2 ⟨hyr, fun a ha => Classical.byContradiction fun hn => hc ⟨⟨a, (adj_lt hl ha).1, hn⟩, ha⟩⟩
    rw [h y hy] at this; cases this
  obtain ⟨f, hf⟩ := Classical.axiomOfChoice next
  let v : Nat → { y : Nat // y < n ∧ y ∉ row } := fun i => Nat.rec ⟨x, hx, hxr⟩ (fun _ y => f y) i
  have hv : ∀ i, adj l (v (i + 1)).1 (v i).1 := fun i => hf (v i)
  obtain ⟨i, j, hij, _, he⟩ := collide (f := fun i => (v i).1) (n := n) (k := n + 1) (by omega) (fun i _ => (v i).2.1)
  have back : ∀ k i, Path l k (v (i + k)).1 (v i).1 := by
    intro k
    induction k with
    | zero => intro i; rfl
    | succ k ih => intro i; exact ⟨(v (i + k)).1, hv (i + k), ih i⟩
  have p := back (j - i) i
  have he : (v i).1 = (v j).1 := he
  rw [show i + (j - i) = j by omega, he] at p
  intro ha
  refine ha (j - i - 1) (v j).1 ?_
  rw [show j - i - 1 + 1 = j - i by omega]; exact p
theorem orderF_some {n : Nat} {l : List Pr} (hl : okL n l) : ∀ (k : Nat) (row r : List Nat), Beg n l row → orderF l n k row = some r → Beg n l r ∧ r.length = row.length + k
  | 0, row, r, h, he => by
    simp only [orderF, Option.some.injEq] at he
    subst he; exact ⟨h, rfl⟩
  | k + 1, row, r, h, he => by
    simp only [orderF] at he
    split at he
    · cases he
    · rename_i p hp
      obtain ⟨h1, h2, _⟩ := List.find?_range_eq_some.1 hp
      obtain ⟨h3, h4⟩ := orderF_some hl k _ r (beg_snoc hl h (by simpa using h2) h1) he
      exact ⟨h3, by simp at h4; omega⟩
theorem orderF_none {n : Nat} {l : List Pr} (hl : okL n l) : ∀ (k : Nat) (row : List Nat), row.length + k = n → Beg n l row → orderF l n k row = none → ¬ Acyc l
  | 0, row, _, _, he => by simp [orderF] at he
  | k + 1, row, hk, h, he => by
    simp only [orderF] at he
    split at he
    · rename_i hp
      rw [List.find?_eq_none] at hp
      exact stuck hl (row := row) (by omega) (fun q hq => by simpa using hp q (List.mem_range.2 hq))
    · rename_i p hp
      obtain ⟨h1, h2, _⟩ := List.find?_range_eq_some.1 hp
      exact orderF_none hl k _ (by simp; omega) (beg_snoc hl h (by simpa using h2) h1) he
end Topo
end Go.Proofs.Ytjibdljdkgedcaa
