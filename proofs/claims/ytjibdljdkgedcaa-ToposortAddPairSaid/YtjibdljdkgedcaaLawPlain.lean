/-
  What the laws say of the counts. Plain Lean.
-/
import Derived.Test.YtjibdljdkgedcaaCountLaw
import Derived.Test.YtjibdljdkgedcaaSortW
import Derived.Test.YtjibdljdkgedcaaImplied
namespace Go.Proofs.Ytjibdljdkgedcaa
open Abs
namespace Topo
theorem countR_ok {m : Nat} {l : List Pr} (hm : m ≤ 16) (hl : okL m l) (hg : graphL m l = edges l) (h : wrong m l = 0) : countR m l = if compl l m m [] = 0 then (0, 14) else (((compl l m m [] : Nat) : Int), 0) := by
  unfold countR
  rw [if_neg (by simp [h]), hg, Int.toNat_natCast, cnt_compl hm hl]
  by_cases hc : compl l m m [] = 0
  · rw [if_pos hc, if_pos (by omega)]
  · rw [if_neg hc, if_neg (by omega)]
theorem compl_none {m : Nat} {l : List Pr} (hl : okL m l) (h : orderF l m m [] = none) : compl l m m [] = 0 := by
  have h1 := (not_congr (order_iff hl)).1 (by rw [h]; simp)
  have h2 := (not_congr (compl_iff hl)).2 h1
  omega
theorem compl_some {m : Nat} {l : List Pr} {r : List Nat} (hl : okL m l) (h : orderF l m m [] = some r) : 0 < compl l m m [] :=
  (compl_iff hl).2 ((order_iff hl).1 (by rw [h]; rfl))
theorem compl_16 {m : Nat} {l : List Pr} (hm : m ≤ 16) (hl : okL m l) : compl l m m [] ≤ 20922789888000 :=
  Nat.le_trans (compl_le hl m [] List.nodup_nil (fun _ h => by cases h) (by simp)) (fact_16 hm)
theorem wrong_of {m : Nat} {l : List Pr} (hm : m ≤ 16) (hl : okL m l) (h : l.length ≤ 64) : wrong m l = 0 ∧ graphL m l = edges l := by
  have ha : l.all (okP m) = true := List.all_eq_true.2 hl
  unfold wrong graphL
  rw [if_neg (by omega), if_pos ha, if_neg (by omega), if_neg (by omega), takeWhile_all _ _ ha]
  exact ⟨rfl, rfl⟩
/-- All pairs that make k the first. -/
def moreL (l : List Pr) (k : Nat) : Nat → List Pr
  | 0 => l
  | i + 1 => if i ≠ k then moreL l k i ++ [((k : Int), (i : Int))] else moreL l k i
theorem more_len (l : List Pr) (k : Nat) : ∀ i, (moreL l k i).length ≤ l.length + i
  | 0 => Nat.le_refl _
  | i + 1 => by
    have := more_len l k i
    simp only [moreL]; split
    · simp; omega
    · omega
theorem more_ok {n : Nat} {l : List Pr} (hl : okL n l) {k : Nat} (hk : k < n) : ∀ i, i ≤ n → okL n (moreL l k i)
  | 0, _ => hl
  | i + 1, hi => by
    have := more_ok hl hk i (by omega)
    simp only [moreL]; split
    · exact okL_snoc this hk (by omega)
    · exact this
theorem adj_more (l : List Pr) (k : Nat) : ∀ i a b, adj (moreL l k i) a b ↔ adj l a b ∨ (a = k ∧ b < i ∧ b ≠ k)
  | 0, a, b => by simp [moreL]
  | i + 1, a, b => by
    simp only [moreL]
    split
    · rename_i hik
      rw [adj_snoc, adj_more]
      constructor
      · rintro ((h | ⟨h1, h2, h3⟩) | ⟨h1, h2⟩)
        · exact .inl h
        · exact .inr ⟨h1, by omega, h3⟩
        · exact .inr ⟨h1, by omega, by omega⟩
      · rintro (h | ⟨h1, h2, h3⟩)
        · exact .inl (.inl h)
        · by_cases e : b = i
          · exact .inr ⟨h1, e⟩
          · exact .inl (.inr ⟨h1, by omega, h3⟩)
    · rename_i hik
      rw [adj_more]
      constructor
      · rintro (h | ⟨h1, h2, h3⟩)
        · exact .inl h
        · exact .inr ⟨h1, by omega, h3⟩
      · rintro (h | ⟨h1, h2, h3⟩)
        · exact .inl h
        · exact .inr ⟨h1, by omega, h3⟩
section
variable {n : Nat} {l : List Pr} (hl : okL n l) {k : Nat} (hk : k < n)
include hl hk
theorem more_has : ∀ (j : Nat) (row : List Nat), k ∈ row → compl (moreL l k n) n j row = compl l n j row
  | 0, _, _ => rfl
  | j + 1, row, h => by
    simp only [compl]
    refine sumN_congr fun p _ => ?_
    rw [more_has j (row ++ [p]) (by simp [h])]
    have : freeR row p (moreL l k n) = freeR row p l := by
      rw [Bool.eq_iff_iff, freeR_iff (more_ok hl hk n (Nat.le_refl _)), freeR_iff hl]
      refine and_congr_right fun _ => ⟨fun h2 a ha => h2 a ((adj_more l k n a p).2 (.inl ha)), fun h2 a ha => ?_⟩
      rcases (adj_more l k n a p).1 ha with ha | ⟨rfl, _⟩
      · exact h2 a ha
      · exact h
    rw [this]
theorem more_first (j : Nat) : compl (moreL l k n) n (j + 1) [] = if freeR [] k l = true then compl l n j [k] else 0 := by
  have hfree : ∀ p, p < n → (freeR [] p (moreL l k n) = true ↔ p = k ∧ freeR [] k l = true) := by
    intro p hp
    rw [freeR_iff (more_ok hl hk n (Nat.le_refl _)), freeR_iff hl]
    constructor
    · rintro ⟨_, h⟩
      have hpk : p = k := by
        apply Classical.byContradiction
        intro hne
        have := h k ((adj_more l k n k p).2 (.inr ⟨rfl, hp, hne⟩))
        simp at this
      subst hpk
      exact ⟨rfl, by simp, fun a ha => h a ((adj_more l p n a p).2 (.inl ha))⟩
    · rintro ⟨rfl, _, h⟩
      refine ⟨by simp, fun a ha => ?_⟩
      rcases (adj_more l p n a p).1 ha with ha | ⟨_, _, h3⟩
      · exact h a ha
      · exact absurd rfl h3
  simp only [compl]
  rw [sumN_one _ hk]
  · have := more_has hl hk j [k] (by simp)
    by_cases h : freeR [] k l = true
    · rw [if_pos ((hfree k hk).2 ⟨rfl, h⟩), if_pos h]; exact this
    · rw [if_neg (fun h2 => h ((hfree k hk).1 h2).2), if_neg h]
  · intro p hp hpk
    rw [if_neg fun h => hpk ((hfree p hp).1 h).1]
end
theorem more_sum {n : Nat} {l : List Pr} (hl : okL (n + 1) l) : compl l (n + 1) (n + 1) [] = sumN (n + 1) fun k => compl (moreL l k (n + 1)) (n + 1) (n + 1) [] := by
  simp only [compl]
  refine sumN_congr fun k hk => ?_
  exact (more_first hl hk n).symm
/-- One pair more: never more orders; as many exactly where the pair was implied. -/
theorem add_le {n : Nat} {l : List Pr} (hl : okL n l) {a b : Nat} (ha : a < n) (hb : b < n) : compl (l ++ [((a : Int), (b : Int))]) n n [] ≤ compl l n n [] := by
  by_cases hab : a = b
  · subst hab
    have : ¬ Acyc (l ++ [((a : Int), (a : Int))]) := fun h => h 0 a ⟨a, (adj_snoc l a a a a).2 (.inr ⟨rfl, rfl⟩), rfl⟩
    have := (not_congr (compl_iff (okL_snoc hl ha hb))).2 this
    omega
  · rw [compl_split hl ha hb hab n [] List.nodup_nil (fun _ h => by cases h) (by simp) (by simp) (by simp)]; omega
theorem add_eq {n : Nat} {l : List Pr} (hl : okL n l) (hc : Acyc l) {a b : Nat} (ha : a < n) (hb : b < n) :
    compl (l ++ [((a : Int), (b : Int))]) n n [] = compl l n n [] ↔ ∃ m, Path l (m + 1) a b := by
  by_cases hab : a = b
  · subst hab
    have h1 : ¬ Acyc (l ++ [((a : Int), (a : Int))]) := fun h => h 0 a ⟨a, (adj_snoc l a a a a).2 (.inr ⟨rfl, rfl⟩), rfl⟩
    have h2 := (not_congr (compl_iff (okL_snoc hl ha hb))).2 h1
    have h3 := (compl_iff hl).2 hc
    constructor
    · intro h; omega
    · rintro ⟨m, h⟩; exact absurd h (hc m a)
  · rw [compl_split hl ha hb hab n [] List.nodup_nil (fun _ h => by cases h) (by simp) (by simp) (by simp)]
    have h1 := not_congr (compl_iff (okL_snoc hl hb ha))
    rw [acyc_snoc hc, Classical.not_not] at h1
    constructor
    · intro h
      obtain ⟨m, hm⟩ := h1.1 (by omega)
      cases m with
      | zero => exact absurd hm hab
      | succ m => exact ⟨m, hm⟩
    · rintro ⟨m, hm⟩
      have := h1.2 ⟨m + 1, hm⟩
      omega
end Topo
end Go.Proofs.Ytjibdljdkgedcaa
