/-
  What it means that an order keeps the pairs; the order that Sort finds keeps them and is the least. Plain Lean.
-/
import Derived.Test.YtjibdljdkgedcaaOrders
set_option linter.unusedSimpArgs false
set_option linter.unusedVariables false
namespace Go.Proofs.Ytjibdljdkgedcaa
open Abs
namespace Topo
def keepsI (row : List Int) (l : List Pr) : Bool := decide row.Nodup && l.all fun p => decide (p.1 ∈ row ∧ p.2 ∈ row ∧ row.idxOf p.1 < row.idxOf p.2)
theorem keeps_iff (row : List Int) (l : List Pr) : keepsI row l = true ↔ row.Nodup ∧ ∀ p ∈ l, p.1 ∈ row ∧ p.2 ∈ row ∧ row.idxOf p.1 < row.idxOf p.2 := by
  unfold keepsI
  simp only [Bool.and_eq_true, decide_eq_true_eq, List.all_eq_true]
theorem keeps_adj {row : List Int} {l : List Pr} (h : keepsI row l = true) {a b : Nat} (hab : adj l a b) : (a : Int) ∈ row ∧ (b : Int) ∈ row ∧ row.idxOf (a : Int) < row.idxOf (b : Int) := by
  obtain ⟨p, hp, h1, h2⟩ := hab
  have := ((keeps_iff row l).1 h).2 p hp
  rw [h1, h2] at this
  exact this
theorem keeps_acyc {row : List Int} {l : List Pr} (h : keepsI row l = true) : Acyc l := by
  have path : ∀ (m : Nat) (a b : Nat), Path l (m + 1) a b → row.idxOf (a : Int) < row.idxOf (b : Int) := by
    intro m
    induction m with
    | zero =>
      rintro a b ⟨c, hc, he⟩
      have he : c = b := he
      subst he; exact (keeps_adj h hc).2.2
    | succ m ih =>
      rintro a b ⟨c, hc, hp⟩
      have := (keeps_adj h hc).2.2
      have := ih c b hp
      omega
  intro m a hp
  have := path m a a hp
  omega
theorem cast_inj {a b : Nat} (h : (a : Int) = b) : a = b := by omega
theorem nodup_cast {r : List Nat} (h : r.Nodup) : (r.map fun x : Nat => (x : Int)).Nodup := by
  rw [List.Nodup, List.pairwise_map]
  exact h.imp fun hne he => hne (cast_inj he)
theorem idx_cast (r : List Nat) (a : Nat) : (r.map fun x : Nat => (x : Int)).idxOf (a : Int) = r.idxOf a := by
  induction r with
  | nil => rfl
  | cons x r ih =>
    rw [List.map_cons, List.idxOf_cons, List.idxOf_cons, ih]
    by_cases h : x = a
    · subst h; simp
    · have h' : ¬ (x : Int) = a := fun e => h (cast_inj e)
      rw [show ((x : Int) == (a : Int)) = false from by simpa using h', show (x == a) = false from by simpa using h]
theorem mem_cast {r : List Nat} {a : Nat} : (a : Int) ∈ (r.map fun x : Nat => (x : Int)) ↔ a ∈ r := by
  rw [List.mem_map]
  constructor
  · rintro ⟨b, hb, he⟩; exact cast_inj he ▸ hb
  · intro h; exact ⟨a, h, rfl⟩
theorem beg_keeps {n : Nat} {l : List Pr} (hl : okL n l) {r : List Nat} (h : Beg n l r) (hn : r.length = n) : keepsI (r.map fun x : Nat => (x : Int)) l = true := by
  have hall : ∀ x, x < n → x ∈ r := by
    intro x hx
    apply Classical.byContradiction
    intro hxr
    have := nodup_le n (x :: r) (List.nodup_cons.2 ⟨hxr, h.nodup⟩) (fun y hy => by
      rcases List.mem_cons.1 hy with rfl | hy
      · exact hx
      · exact h.lt y hy)
    simp at this; omega
  rw [keeps_iff]
  refine ⟨nodup_cast h.nodup, fun p hp => ?_⟩
  have hb := (okP_iff n p).1 (hl p hp)
  obtain ⟨a, ha⟩ := Int.eq_ofNat_of_zero_le (show 0 ≤ p.1 by omega)
  obtain ⟨b, hb2⟩ := Int.eq_ofNat_of_zero_le (show 0 ≤ p.2 by omega)
  have hab : adj l a b := ⟨p, hp, ha, hb2⟩
  obtain ⟨h1, h2⟩ := adj_lt hl hab
  rw [ha, hb2]
  refine ⟨mem_cast.2 (hall a h1), mem_cast.2 (hall b h2), ?_⟩
  rw [idx_cast, idx_cast]
  have hbl := List.idxOf_lt_length_of_mem (hall b h2)
  obtain ⟨j, hj, hji, he⟩ := h.before (r.idxOf b) a hbl (by rw [List.getElem_idxOf]; exact hab)
  have : r.idxOf a = j := by rw [← he]; exact h.nodup.idxOf_getElem j hj
  omega
theorem order_steps {n : Nat} {l : List Pr} : ∀ (k : Nat) (row r : List Nat), orderF l n k row = some r → row <+: r ∧ ∀ i, row.length ≤ i → (hi : i < r.length) → (List.range n).find? (fun p => freeR (r.take i) p l) = some r[i]
  | 0, row, r, he => by
    simp only [orderF, Option.some.injEq] at he
    subst he
    exact ⟨List.prefix_rfl, fun i h1 h2 => by omega⟩
  | k + 1, row, r, he => by
    simp only [orderF] at he
    split at he
    · cases he
    · rename_i p hp
      obtain ⟨h1, h2⟩ := order_steps k _ r he
      obtain ⟨t, ht⟩ := h1
      refine ⟨⟨p :: t, by rw [← ht]; simp⟩, fun i hi hlt => ?_⟩
      by_cases hir : i = row.length
      · subst hir
        have e1 : r.take row.length = row := by rw [← ht]; simp
        have e2 : r[row.length] = p := by
          have : ∀ (q : List Nat) (e : q = row ++ [p] ++ t) (h : row.length < q.length), q[row.length] = p := by
            intro q e h; subst e; simp
          exact this r ht.symm hlt
        rw [e1, e2]; exact hp
      · exact h2 i (by simp; omega) hlt
theorem order_least {n : Nat} {l : List Pr} (hl : okL n l) {r : List Nat} (ho : orderF l n n [] = some r) {w : List Int} (hw : keepsI w l = true) (hr : ∀ x ∈ w, 0 ≤ x ∧ x < n) {i : Nat} (hiw : i < w.length) (hir : i < r.length)
    (he : ∀ j, (h1 : j < i) → w[j]'(by omega) = ((r[j]'(by omega) : Nat) : Int)) (hne : w[i] ≠ (r[i] : Int)) : (r[i] : Int) < w[i] := by
  obtain ⟨_, hs⟩ := order_steps n [] r ho
  have hf := hs i (by simp) hir
  obtain ⟨h1, h2⟩ := hr w[i] (List.getElem_mem _)
  obtain ⟨c, hc⟩ := Int.eq_ofNat_of_zero_le h1
  rw [hc] at h2 hne ⊢
  obtain ⟨hnd, hp⟩ := (keeps_iff w l).1 hw
  have hpre : ∀ a : Nat, a ∈ r.take i ↔ ∃ j, ∃ h : j < i, w[j]'(by omega) = (a : Int) := by
    intro a
    rw [List.mem_iff_getElem]
    constructor
    · rintro ⟨j, hj, e⟩
      rw [List.length_take] at hj
      rw [List.getElem_take] at e
      exact ⟨j, by omega, by rw [he j (by omega), e]⟩
    · rintro ⟨j, hj, e⟩
      refine ⟨j, by rw [List.length_take]; omega, ?_⟩
      rw [List.getElem_take]
      rw [he j hj] at e
      exact cast_inj e
  have hidx : ∀ j, (h : j < w.length) → w.idxOf w[j] = j := fun j h => hnd.idxOf_getElem j h
  have hfree : freeR (r.take i) c l = true := by
    rw [freeR_iff hl]
    refine ⟨fun hm => ?_, fun a ha => ?_⟩
    · obtain ⟨j, hj, e⟩ := (hpre c).1 hm
      have e1 := hidx j (by omega)
      have e2 := hidx i hiw
      rw [e] at e1; rw [hc] at e2
      have e2 : w.idxOf (c : Int) = i := e2
      omega
    · obtain ⟨m1, m2, m3⟩ := keeps_adj hw ha
      have e2 := hidx i hiw
      rw [hc] at e2
      have e2 : w.idxOf (c : Int) = i := e2
      have hlt := List.idxOf_lt_length_of_mem m1
      exact (hpre a).2 ⟨w.idxOf (a : Int), by omega, List.getElem_idxOf _⟩
  obtain ⟨_, _, hmin⟩ := List.find?_range_eq_some.1 hf
  have hge : ¬ c < r[i] := fun hlt => by
    have := hmin c hlt
    rw [hfree] at this; cases this
  have hne2 : ¬ c = r[i] := fun e => hne (e ▸ rfl)
  show (r[i] : Int) < (c : Int)
  omega
end Topo
end Go.Proofs.Ytjibdljdkgedcaa
