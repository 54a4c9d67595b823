/-
  Paths in a graph of pairs. Plain Lean.
-/
import Derived.Test.YtjibdljdkgedcaaSortLaw
set_option linter.unusedSimpArgs false
set_option linter.unusedVariables false
namespace Go.Proofs.Ytjibdljdkgedcaa
open Abs
namespace Topo
def adj (l : List Pr) (i j : Nat) : Prop := ∃ p ∈ l, p.1 = (i : Int) ∧ p.2 = (j : Int)
def Path (l : List Pr) : Nat → Nat → Nat → Prop
  | 0, a, b => a = b
  | m + 1, a, b => ∃ c, adj l a c ∧ Path l m c b
def okL (n : Nat) (l : List Pr) : Prop := ∀ p ∈ l, okP n p = true
def Acyc (l : List Pr) : Prop := ∀ m a, ¬ Path l (m + 1) a a
theorem adj_lt {n : Nat} {l : List Pr} (h : okL n l) {i j : Nat} (ha : adj l i j) : i < n ∧ j < n := by
  obtain ⟨p, hp, h1, h2⟩ := ha
  have := (okP_iff n p).1 (h p hp)
  omega
theorem nodup_le : ∀ (n : Nat) (l : List Nat), l.Nodup → (∀ x ∈ l, x < n) → l.length ≤ n
  | 0, l, _, h => by
    cases l with
    | nil => simp
    | cons x l => exact absurd (h x (by simp)) (by omega)
  | n + 1, l, hd, h => by
    by_cases hn : n ∈ l
    · have h1 := nodup_le n (l.erase n) (hd.erase n) (fun x hx => by
        have h2 := (List.Nodup.mem_erase_iff hd).1 hx
        have := h x h2.2
        have := h2.1
        omega)
      rw [List.length_erase_of_mem hn] at h1; omega
    · have := nodup_le n l hd (fun x hx => by
        have := h x hx
        have : x ≠ n := fun e => hn (e ▸ hx)
        omega)
      omega
theorem le_of_all : ∀ (n : Nat) (l : List Nat), (∀ x, x < n → x ∈ l) → n ≤ l.length
  | 0, _, _ => Nat.zero_le _
  | n + 1, l, h => by
    have hn := h n (by omega)
    have h1 := le_of_all n (l.erase n) (fun x hx => (List.mem_erase_of_ne (by omega)).2 (h x (by omega)))
    rw [List.length_erase_of_mem hn] at h1
    have := List.length_pos_of_mem hn
    omega
theorem collide {f : Nat → Nat} {n k : Nat} (hk : n < k) (h : ∀ i, i < k → f i < n) : ∃ i j, i < j ∧ j < k ∧ f i = f j := by
  apply Classical.byContradiction
  intro hc
  have hd : ((List.range k).map f).Nodup := by
    unfold List.Nodup
    rw [List.pairwise_map]
    refine List.Pairwise.imp_of_mem ?_ List.pairwise_lt_range
    intro a b _ hb hab he
    exact hc ⟨a, b, hab, List.mem_range.1 hb, he⟩
  have := nodup_le n _ hd (fun x hx => by
    obtain ⟨i, hi, rfl⟩ := List.mem_map.1 hx
    exact h i (List.mem_range.1 hi))
  simp at this
  omega
end Topo
end Go.Proofs.Ytjibdljdkgedcaa
