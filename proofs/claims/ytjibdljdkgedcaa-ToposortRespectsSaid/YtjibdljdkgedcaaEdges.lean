/-
  What the bits of a graph say; Sort against the reference's Order. Plain Lean.
-/
import Derived.Test.YtjibdljdkgedcaaRefOrder
set_option linter.unusedSimpArgs false
set_option linter.unusedVariables false
namespace Go.Proofs.Ytjibdljdkgedcaa
open Abs
namespace Topo
theorem pow_bit (b i : Nat) : (2 ^ b).testBit i = decide (b = i) := Nat.testBit_two_pow
theorem addE_getD {g : List Nat} {p : Pr} {i : Nat} (hg : g.length = 16) (h1 : p.1.toNat < 16) : (addE g p).getD i 0 = if p.1.toNat = i then orU (g.getD i 0) (2 ^ p.2.toNat) else g.getD i 0 := by
  unfold addE
  rw [List.getD_eq_getElem?_getD, List.getElem?_set]
  split
  · rename_i h
    subst h
    rw [if_pos (by omega)]; rfl
  · rw [List.getD_eq_getElem?_getD]
/-- A bit of the graph is a pair. -/
theorem edges_bit (l : List Pr) (h : ∀ p ∈ l, p.1.toNat < 16 ∧ p.2.toNat < 16) (i j : Nat) (hj : j < 64) : ((edges l).getD i 0).testBit j = l.any fun p => decide (p.1.toNat = i ∧ p.2.toNat = j) := by
  have key : ∀ (l : List Pr) (g : List Nat), g.length = 16 → (∀ p ∈ l, p.1.toNat < 16 ∧ p.2.toNat < 16) → ((l.foldl addE g).getD i 0).testBit j = ((g.getD i 0).testBit j || l.any fun p => decide (p.1.toNat = i ∧ p.2.toNat = j)) := by
    intro l
    induction l with
    | nil => intro g _ _; simp
    | cons p l ih =>
      intro g hg hp
      rw [List.foldl_cons, ih _ (by rw [addE_length]; exact hg) (fun q hq => hp q (List.mem_cons_of_mem _ hq)), addE_getD hg (hp p (by simp)).1, List.any_cons]
      split
      · rename_i h
        rw [testBit_orU _ _ _ hj, pow_bit]
        simp [h, Bool.or_assoc]
      · rename_i h
        simp [h]
  unfold edges
  rw [key l _ (by simp) h]
  have : ((List.replicate 16 0).getD i 0 : Nat) = 0 := by
    rw [List.getD_eq_getElem?_getD, List.getElem?_replicate]; split <;> rfl
  rw [this, Nat.zero_testBit, Bool.false_or]
theorem aheadN_bit (g : List Nat) (b i : Nat) (hi : i < 64) : ∀ a, (aheadN g b a).testBit i = (decide (i < a) && (g.getD i 0).testBit b)
  | 0 => by simp [aheadN]
  | a + 1 => by
    have ih := aheadN_bit g b i hi a
    simp only [aheadN]
    by_cases hia : i = a
    · subst hia
      split
      · rename_i h
        rw [testBit_orU _ _ _ hi, ih, pow_bit, h]; simp
      · rename_i h
        rw [ih]; simp at h; simp [h]
    · have e : decide (i < a + 1) = decide (i < a) := by congr 1; simp only [eq_iff_iff]; omega
      split
      · rw [testBit_orU _ _ _ hi, ih, pow_bit, e, decide_eq_false (Ne.symm hia), Bool.or_false]
      · rw [ih, e]
/-- The set of a list. -/
def bitsOf (done : Nat) (row : List Nat) : Prop := ∀ i, i < 64 → done.testBit i = row.contains i
theorem inL_nat (row : List Nat) (x : Int) (h : 0 ≤ x) : inL row x = row.contains x.toNat := by
  unfold inL
  rw [List.contains_eq_any_beq]
  congr 1
  funext y
  by_cases hy : (y : Int) = x
  · rw [decide_eq_true hy]; simp; omega
  · rw [decide_eq_false hy]; symm; simp; omega
theorem freeB_eq {n : Nat} (hn : n ≤ 16) {l : List Pr} (hl : ∀ p ∈ l, okP n p = true) {done : Nat} {row : List Nat} (hd : bitsOf done row) {k : Nat} (hk : k < 16) :
    freeB (edges l) n done k = freeR row k l := by
  have hb : ∀ p ∈ l, 0 ≤ p.1 ∧ p.1 < n ∧ 0 ≤ p.2 ∧ p.2 < n := fun p hp => by simpa [okP] using hl p hp
  have hb2 : ∀ p ∈ l, p.1.toNat < 16 ∧ p.2.toNat < 16 := fun p hp => by have := hb p hp; omega
  unfold freeB freeR
  rw [hd k (by omega), inL_nat row k (by omega), Int.toNat_natCast]
  congr 1
  rw [Bool.eq_iff_iff, subU_iff, List.all_eq_true]
  constructor
  · intro h p hp
    obtain ⟨h1, h2, h3, h4⟩ := hb p hp
    rw [inL_nat row p.1 h1]
    by_cases hpk : p.2 = (k : Int)
    · have := h p.1.toNat (by omega) (by
        rw [aheadN_bit _ _ _ (by omega), decide_eq_true (by omega), edges_bit l hb2 _ _ (by omega), Bool.true_and, List.any_eq_true]
        exact ⟨p, hp, by simp; omega⟩)
      rw [hd _ (by omega)] at this
      rw [this]; simp
    · rw [decide_eq_false hpk]; rfl
  · intro h i hi hbit
    rw [aheadN_bit _ _ _ hi, edges_bit l hb2 _ _ (by omega), Bool.and_eq_true, List.any_eq_true] at hbit
    obtain ⟨_, p, hp, hpe⟩ := hbit
    obtain ⟨h1, h2, h3, h4⟩ := hb p hp
    have hpe : p.1.toNat = i ∧ p.2.toNat = k := by simpa using hpe
    have := h p hp
    rw [inL_nat row p.1 h1, decide_eq_true (by omega), hpe.1] at this
    rw [hd _ hi]
    simpa using this
end Topo
end Go.Proofs.Ytjibdljdkgedcaa
