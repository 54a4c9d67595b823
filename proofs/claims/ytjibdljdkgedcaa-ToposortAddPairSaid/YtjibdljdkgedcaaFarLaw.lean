/-
  The table of far holds the lengths of the shortest paths. Plain Lean.
-/
import Derived.Test.YtjibdljdkgedcaaPaths
import Derived.Test.YtjibdljdkgedcaaFar
namespace Go.Proofs.Ytjibdljdkgedcaa
open Abs
namespace Topo
def at2 (d : List Int) (a b : Nat) : Int := d.getD (a * 16 + b) 0
theorem at2_set {d : List Int} (hd : d.length = 256) {a b x y : Nat} (ha : a < 16) (hb : b < 16) (hx : x < 16) (hy : y < 16) (v : Int) :
    at2 (d.set (a * 16 + b) v) x y = if x = a ∧ y = b then v else at2 d x y := by
  unfold at2
  rw [List.getD_eq_getElem?_getD, List.getElem?_set]
  by_cases h : x = a ∧ y = b
  · obtain ⟨rfl, rfl⟩ := h
    rw [if_pos rfl, if_pos (show x * 16 + y < d.length by omega), if_pos (⟨rfl, rfl⟩ : x = x ∧ y = y)]; rfl
  · rw [if_neg h, if_neg (by omega), ← List.getD_eq_getElem?_getD]
theorem initB_at (g : List Nat) {a : Nat} (ha : a < 16) {d : List Int} (hd : okD d) : ∀ b, b ≤ 16 → ∀ x y, x < 16 → y < 16 →
    at2 (initB g a b d) x y = if x = a ∧ y < b then (if (g.getD a 0).testBit y = true then 1 else 32) else at2 d x y
  | 0, _, x, y, _, _ => by rw [if_neg (by omega)]; rfl
  | b + 1, hb, x, y, hx, hy => by
    simp only [initB]
    rw [at2_set (okD_initB g a hd b).1 ha (by omega) hx hy, initB_at g ha hd b (by omega) x y hx hy]
    by_cases h : x = a ∧ y = b
    · obtain ⟨rfl, rfl⟩ := h
      rw [if_pos (⟨rfl, rfl⟩ : x = x ∧ y = y), if_pos (show x = x ∧ y < y + 1 by omega)]
    · rw [if_neg h]
      by_cases h2 : x = a ∧ y < b
      · rw [if_pos h2, if_pos (show x = a ∧ y < b + 1 by omega)]
      · rw [if_neg h2, if_neg (show ¬ (x = a ∧ y < b + 1) by omega)]
theorem initA_at (g : List Nat) {n : Nat} (hn : n ≤ 16) {d : List Int} (hd : okD d) : ∀ a, a ≤ n → ∀ x y, x < 16 → y < n →
    at2 (initA g n a d) x y = if x < a then (if (g.getD x 0).testBit y = true then 1 else 32) else at2 d x y
  | 0, _, x, y, _, _ => by rw [if_neg (by omega)]; rfl
  | a + 1, ha, x, y, hx, hy => by
    simp only [initA]
    rw [initB_at g (by omega) (okD_initA g n hd a) n hn x y hx (by omega), initA_at g hn hd a (by omega) x y hx hy]
    by_cases h : x = a
    · subst h; rw [if_pos (⟨rfl, hy⟩ : x = x ∧ y < n), if_pos (show x < x + 1 by omega)]
    · rw [if_neg (show ¬ (x = a ∧ y < n) by omega)]
      by_cases h2 : x < a
      · rw [if_pos h2, if_pos (show x < a + 1 by omega)]
      · rw [if_neg h2, if_neg (show ¬ x < a + 1 by omega)]
theorem at2_ok {d : List Int} (h : okD d) (a b : Nat) : 0 ≤ at2 d a b ∧ at2 d a b ≤ 32 := h.2 _
theorem relB_at {k a : Nat} (hk : k < 16) (ha : a < 16) {d : List Int} (hd : okD d) : ∀ b, b ≤ 16 → ∀ x y, x < 16 → y < 16 →
    at2 (relB k a b d) x y = if x = a ∧ y < b then min (at2 d a y) (at2 d a k + at2 d k y) else at2 d x y
  | 0, _, x, y, _, _ => by rw [if_neg (by omega)]; rfl
  | b + 1, hb, x, y, hx, hy => by
    have ih := relB_at hk ha hd b (by omega)
    simp only [relB]
    rw [at2_set (okD_relB k a hd b).1 ha (by omega) hx hy]
    have e1 : (relB k a b d).getD (a * 16 + b) 0 = at2 d a b := by
      have := ih a b ha (by omega)
      rw [if_neg (by omega)] at this; exact this
    have hkk := at2_ok hd k k
    have e2 : (relB k a b d).getD (a * 16 + k) 0 = at2 d a k := by
      have := ih a k ha hk
      have e : (relB k a b d).getD (a * 16 + k) 0 = at2 (relB k a b d) a k := rfl
      rw [e, this]
      split <;> omega
    have e3 : (relB k a b d).getD (k * 16 + b) 0 = at2 d k b := by
      have := ih k b hk (by omega)
      have e : (relB k a b d).getD (k * 16 + b) 0 = at2 (relB k a b d) k b := rfl
      rw [e, this, if_neg (by omega)]
    rw [e1, e2, e3]
    by_cases h : x = a ∧ y = b
    · obtain ⟨rfl, rfl⟩ := h
      rw [if_pos ⟨rfl, rfl⟩, if_pos ⟨rfl, by omega⟩]
    · rw [if_neg h, ih x y hx hy]
      by_cases h2 : x = a ∧ y < b
      · rw [if_pos h2, if_pos (by omega)]
      · rw [if_neg h2, if_neg (by omega)]
theorem relA_at {n k : Nat} (hn : n ≤ 16) (hk : k < n) {d : List Int} (hd : okD d) : ∀ a, a ≤ n → ∀ x y, x < n → y < n →
    at2 (relA n k a d) x y = if x < a then min (at2 d x y) (at2 d x k + at2 d k y) else at2 d x y
  | 0, _, x, y, _, _ => by rw [if_neg (by omega)]; rfl
  | a + 1, ha, x, y, hx, hy => by
    have ih := relA_at hn hk hd a (by omega)
    simp only [relA]
    rw [relB_at (by omega) (by omega) (okD_relA n k hd a) n hn x y (by omega) (by omega), ih x y hx hy, ih a y (by omega) hy, ih a k (by omega) hk, ih k y hk hy]
    have hkk := at2_ok hd k k
    have hky := at2_ok hd k y
    by_cases h : x = a
    · subst h
      rw [if_pos (⟨rfl, hy⟩ : x = x ∧ y < n), if_pos (show x < x + 1 by omega)]
      simp only [Nat.lt_irrefl, if_false]
      split <;> omega
    · rw [if_neg (show ¬ (x = a ∧ y < n) by omega)]
      by_cases h2 : x < a
      · rw [if_pos h2, if_pos (show x < a + 1 by omega)]
      · rw [if_neg h2, if_neg (show ¬ x < a + 1 by omega)]
/-- What a stage knows. -/
structure Stage (l : List Pr) (n k : Nat) (d : List Int) : Prop where
  ok : okD d
  pos : ∀ a b, a < n → b < n → 1 ≤ at2 d a b
  path : ∀ a b, a < n → b < n → at2 d a b < 32 → Path l (at2 d a b).toNat a b
  least : ∀ m a b, a < n → b < n → PathK l k m a b → at2 d a b ≤ m
theorem stage_zero {n : Nat} (hn : n ≤ 16) {l : List Pr} (hl : okL n l) : Stage l n 0 (initA (edges l) n n dzero) := by
  have hb2 : ∀ p ∈ l, p.1.toNat < 16 ∧ p.2.toNat < 16 := fun p hp => by
    have := (okP_iff n p).1 (hl p hp); omega
  have hbit : ∀ a b, b < n → (((edges l).getD a 0).testBit b = true ↔ adj l a b) := fun a b hb => by
    rw [edges_bit l hb2 a b (by omega), List.any_eq_true]
    constructor
    · rintro ⟨p, hp, h⟩
      have h : p.1.toNat = a ∧ p.2.toNat = b := by simpa using h
      have := (okP_iff n p).1 (hl p hp)
      exact ⟨p, hp, by omega, by omega⟩
    · rintro ⟨p, hp, h1, h2⟩
      exact ⟨p, hp, by simp; omega⟩
  have hat := fun a b (ha : a < n) (hb : b < n) => initA_at (edges l) hn okD_zero n (Nat.le_refl _) a b (by omega) hb
  refine ⟨okD_initA _ n okD_zero n, fun a b ha hb => ?_, fun a b ha hb h => ?_, fun m a b ha hb h => ?_⟩
  · rw [hat a b ha hb, if_pos ha]; split <;> omega
  · rw [hat a b ha hb, if_pos ha] at h ⊢
    split at h
    · rename_i hbt
      rw [if_pos hbt]; exact path_one ((hbit a b hb).1 hbt)
    · omega
  · obtain ⟨rfl, hadj⟩ := pathK_zero h
    rw [hat a b ha hb, if_pos ha, if_pos ((hbit a b hb).2 hadj)]; decide
theorem stage_next {n k : Nat} (hn : n ≤ 16) (hk : k < n) {l : List Pr} {d : List Int} (h : Stage l n k d) : Stage l n (k + 1) (relA n k n d) := by
  have hat := fun a b (ha : a < n) (hb : b < n) => relA_at hn hk h.ok n (Nat.le_refl _) a b ha hb
  refine ⟨okD_relA n k h.ok n, fun a b ha hb => ?_, fun a b ha hb hlt => ?_, fun m a b ha hb hp => ?_⟩
  · rw [hat a b ha hb, if_pos ha]
    have h1 := h.pos a b ha hb
    have h2 := h.pos a k ha hk
    have h3 := h.pos k b hk hb
    omega
  · rw [hat a b ha hb, if_pos ha] at hlt ⊢
    have h1 := h.pos a b ha hb
    have h2 := h.pos a k ha hk
    have h3 := h.pos k b hk hb
    by_cases hm : at2 d a b ≤ at2 d a k + at2 d k b
    · rw [show min (at2 d a b) (at2 d a k + at2 d k b) = at2 d a b by omega] at hlt ⊢
      exact h.path a b ha hb hlt
    · rw [show min (at2 d a b) (at2 d a k + at2 d k b) = at2 d a k + at2 d k b by omega] at hlt ⊢
      have := path_add (h.path a k ha hk (by omega)) (h.path k b hk hb (by omega))
      rwa [show (at2 d a k).toNat + (at2 d k b).toNat = (at2 d a k + at2 d k b).toNat by omega] at this
  · rw [hat a b ha hb, if_pos ha]
    rcases pathK_split hp with ⟨m', hm, h'⟩ | ⟨m1, m2, hm, h', h''⟩
    · have := h.least m' a b ha hb h'; omega
    · have := h.least m1 a k ha hk h'
      have := h.least m2 k b hk hb h''
      omega
theorem stage_all {n : Nat} (hn : n ≤ 16) {l : List Pr} (hl : okL n l) : ∀ k, k ≤ n → Stage l n k (relK n k (initA (edges l) n n dzero))
  | 0, _ => stage_zero hn hl
  | k + 1, hk => stage_next hn (by omega) (stage_all hn hl k (by omega))
theorem far_stage {n : Nat} (hn : n ≤ 16) {l : List Pr} (hl : okL n l) : Stage l n n (farL (edges l) n) := stage_all hn hl n (Nat.le_refl _)
theorem far_least {n : Nat} (hn : n ≤ 16) {l : List Pr} (hl : okL n l) {m a b : Nat} (hm : 1 ≤ m) (h : Path l m a b) : at2 (farL (edges l) n) a b ≤ m := by
  obtain ⟨k, rfl⟩ : ∃ k, m = k + 1 := ⟨m - 1, by omega⟩
  have ha : a < n := by
    obtain ⟨c, hc, _⟩ := h; exact (adj_lt hl hc).1
  have hb : b < n := by
    obtain ⟨v, _, h1, h2⟩ := path_seq h
    rw [← h1]; exact (adj_lt hl (h2 k (by omega))).2
  exact (far_stage hn hl).least _ a b ha hb (pathK_of hl h)
/-- Without cycles: below 16 exactly where there is a path. -/
theorem far_iff {n : Nat} (hn : n ≤ 16) {l : List Pr} (hl : okL n l) (hc : Acyc l) {a b : Nat} (ha : a < n) (hb : b < n) :
    at2 (farL (edges l) n) a b < 16 ↔ ∃ m, Path l (m + 1) a b := by
  have hs := far_stage hn hl
  constructor
  · intro h
    have h1 := hs.pos a b ha hb
    refine ⟨(at2 (farL (edges l) n) a b).toNat - 1, ?_⟩
    rw [show (at2 (farL (edges l) n) a b).toNat - 1 + 1 = (at2 (farL (edges l) n) a b).toNat by omega]
    exact hs.path a b ha hb (by omega)
  · rintro ⟨m, h⟩
    have h1 := path_acyc hl hc (by omega) h
    have h2 := far_least hn hl (by omega) h
    omega
end Topo
end Go.Proofs.Ytjibdljdkgedcaa
