/-
  Sort finds what the reference's Order finds. Plain Lean.
-/
import Derived.Test.YtjibdljdkgedcaaEdges
set_option linter.unusedSimpArgs false
set_option linter.unusedVariables false
namespace Go.Proofs.Ytjibdljdkgedcaa
open Abs
namespace Topo
theorem bitsOf_step {done : Nat} {row : List Nat} (h : bitsOf done row) (p : Nat) : bitsOf (orU done (2 ^ p)) (row ++ [p]) := by
  intro i hi
  rw [testBit_orU _ _ _ hi, h i hi, pow_bit, List.contains_eq_any_beq, List.contains_eq_any_beq, List.any_append]
  congr 1
  simp only [List.any_cons, List.any_nil, Bool.or_false]
  by_cases e : p = i
  · subst e; simp
  · rw [decide_eq_false e]; symm; simp; omega
theorem find_congr {f g : Nat → Bool} {n : Nat} (h : ∀ k, k < n → f k = g k) : (List.range n).find? f = (List.range n).find? g := by
  have key : ∀ l : List Nat, (∀ x ∈ l, f x = g x) → l.find? f = l.find? g := by
    intro l
    induction l with
    | nil => intro _; rfl
    | cons x l ih =>
      intro hx
      rw [List.find?_cons, List.find?_cons, hx x (by simp), ih fun y hy => hx y (List.mem_cons_of_mem _ hy)]
  exact key _ fun x hx => h x (List.mem_range.1 hx)
theorem sortF_eq {n : Nat} (hn : n ≤ 16) {l : List Pr} (hl : ∀ p ∈ l, okP n p = true) : ∀ (k : Nat) (row : List Nat) (done : Nat), bitsOf done row → sortF (edges l) n k row done = orderF l n k row
  | 0, _, _, _ => rfl
  | k + 1, row, done, h => by
    simp only [sortF, orderF]
    rw [find_congr fun p hp => freeB_eq hn hl h (show p < 16 by omega)]
    cases (List.range n).find? (fun p => freeR row p l) with
    | none => rfl
    | some p => exact sortF_eq hn hl k _ _ (bitsOf_step h p)
end Topo
end Go.Proofs.Ytjibdljdkgedcaa
