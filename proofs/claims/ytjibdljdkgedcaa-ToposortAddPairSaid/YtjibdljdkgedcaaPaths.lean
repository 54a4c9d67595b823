/-
  Paths in a graph of pairs. Plain Lean.
-/
import Derived.Test.YtjibdljdkgedcaaSortLaw
namespace Go.Proofs.Ytjibdljdkgedcaa
open Abs
namespace Topo
def adj (l : List Pr) (i j : Nat) : Prop := ∃ p ∈ l, p.1 = (i : Int) ∧ p.2 = (j : Int)
def Path (l : List Pr) : Nat → Nat → Nat → Prop
  | 0, a, b => a = b
  | m + 1, a, b => ∃ c, adj l a c ∧ Path l m c b
def okL (n : Nat) (l : List Pr) : Prop := ∀ p ∈ l, okP n p = true
def Acyc (l : List Pr) : Prop := ∀ m a, ¬ Path l (m + 1) a a
theorem adj_lt {n : Nat} {l : List Pr} (h : okL n l) {i j : Nat} (ha : adj l i j) : i < n ∧ j < n := by
  obtain ⟨p, hp, h1, h2⟩ := ha
  have := (okP_iff n p).1 (h p hp)
  omega
theorem path_add {l : List Pr} : ∀ {m k a b c : Nat}, Path l m a b → Path l k b c → Path l (m + k) a c
  | 0, k, a, b, c, h, h' => by
    have h : a = b := h
    subst h; rw [Nat.zero_add]; exact h'
  | m + 1, k, a, b, c, ⟨x, hx, h⟩, h' => by
    rw [Nat.add_right_comm]
    exact ⟨x, hx, path_add h h'⟩
theorem path_one {l : List Pr} {a b : Nat} (h : adj l a b) : Path l 1 a b := ⟨b, h, rfl⟩
theorem path_seq {l : List Pr} : ∀ {m a b : Nat}, Path l m a b → ∃ v : Nat → Nat, v 0 = a ∧ v m = b ∧ ∀ i, i < m → adj l (v i) (v (i + 1))
  | 0, a, b, h => ⟨fun _ => a, rfl, h, fun i hi => by omega⟩
  | m + 1, a, b, ⟨c, hc, h⟩ => by
    obtain ⟨v, h0, h1, h2⟩ := path_seq h
    refine ⟨fun i => match i with | 0 => a | j + 1 => v j, rfl, h1, fun i hi => ?_⟩
    cases i with
    | zero => show adj l a (v 0); rw [h0]; exact hc
    | succ j => exact h2 j (by omega)
theorem seq_path {l : List Pr} {v : Nat → Nat} {m : Nat} (h : ∀ i, i < m → adj l (v i) (v (i + 1))) : ∀ k i, i + k ≤ m → Path l k (v i) (v (i + k))
  | 0, i, _ => rfl
  | k + 1, i, hk => ⟨v (i + 1), h i (by omega), by
    have := seq_path h k (i + 1) (by omega)
    rwa [show i + 1 + k = i + (k + 1) by omega] at this⟩
theorem nodup_le : ∀ (n : Nat) (l : List Nat), l.Nodup → (∀ x ∈ l, x < n) → l.length ≤ n
  | 0, l, _, h => by
    cases l with
    | nil => simp
    | cons x l => exact absurd (h x (by simp)) (by omega)
  | n + 1, l, hd, h => by
    by_cases hn : n ∈ l
    · have h1 := nodup_le n (l.erase n) (hd.erase n) (fun x hx => by
        have h2 := (List.Nodup.mem_erase_iff hd).1 hx
        have := h x h2.2
        have := h2.1
        omega)
      rw [List.length_erase_of_mem hn] at h1; omega
    · have := nodup_le n l hd (fun x hx => by
        have := h x hx
        have : x ≠ n := fun e => hn (e ▸ hx)
        omega)
      omega
theorem le_of_all : ∀ (n : Nat) (l : List Nat), (∀ x, x < n → x ∈ l) → n ≤ l.length
  | 0, _, _ => Nat.zero_le _
  | n + 1, l, h => by
    have hn := h n (by omega)
    have h1 := le_of_all n (l.erase n) (fun x hx => (List.mem_erase_of_ne (by omega)).2 (h x (by omega)))
    rw [List.length_erase_of_mem hn] at h1
    have := List.length_pos_of_mem hn
    omega
theorem collide {f : Nat → Nat} {n k : Nat} (hk : n < k) (h : ∀ i, i < k → f i < n) : ∃ i j, i < j ∧ j < k ∧ f i = f j := by
  apply Classical.byContradiction
  intro hc
  have hd : ((List.range k).map f).Nodup := by
    unfold List.Nodup
    rw [List.pairwise_map]
    refine List.Pairwise.imp_of_mem ?_ List.pairwise_lt_range
    intro a b _ hb hab he
    exact hc ⟨a, b, hab, List.mem_range.1 hb, he⟩
  have := nodup_le n _ hd (fun x hx => by
    obtain ⟨i, hi, rfl⟩ := List.mem_map.1 hx
    exact h i (List.mem_range.1 hi))
  simp at this
  omega
/-- A path can be cut to at most n steps. -/
theorem path_short {n : Nat} {l : List Pr} (hl : okL n l) : ∀ (m : Nat) {a b : Nat}, 1 ≤ m → Path l m a b → ∃ k, 1 ≤ k ∧ k ≤ n ∧ k ≤ m ∧ Path l k a b := by
  intro m
  induction m using Nat.strongRecOn with
  | _ m ih =>
    intro a b hm h
    by_cases hn : m ≤ n
    · exact ⟨m, hm, hn, Nat.le_refl _, h⟩
    · obtain ⟨v, h0, h1, h2⟩ := path_seq h
      obtain ⟨i, j, hij, hj, he⟩ := collide (f := fun i => v (i + 1)) (n := n) (k := m) (by omega) (fun i hi => (adj_lt hl (h2 i hi)).2)
      have p1 := seq_path h2 (i + 1) 0 (by omega)
      have p2 := seq_path h2 (m - (j + 1)) (j + 1) (by omega)
      rw [Nat.zero_add, h0] at p1
      rw [show j + 1 + (m - (j + 1)) = m by omega, h1] at p2
      have he : v (i + 1) = v (j + 1) := he
      rw [he] at p1
      obtain ⟨k, k1, k2, k3, k4⟩ := ih (i + 1 + (m - (j + 1))) (by omega) (by omega) (path_add p1 p2)
      exact ⟨k, k1, k2, by omega, k4⟩
/-- Without cycles every path is short. -/
theorem path_acyc {n : Nat} {l : List Pr} (hl : okL n l) (ha : Acyc l) {m a b : Nat} (hm : 1 ≤ m) (h : Path l m a b) : m < n := by
  apply Classical.byContradiction
  intro hn
  obtain ⟨v, h0, h1, h2⟩ := path_seq h
  obtain ⟨i, j, hij, hj, he⟩ := collide (f := v) (n := n) (k := m + 1) (by omega) (fun i hi => by
    by_cases him : i = m
    · have := (adj_lt hl (h2 (m - 1) (by omega))).2
      rw [show m - 1 + 1 = m by omega] at this
      rw [him]; exact this
    · exact (adj_lt hl (h2 i (by omega))).1)
  have p := seq_path h2 (j - i) i (by omega)
  rw [show i + (j - i) = j by omega, ← he] at p
  refine ha (j - i - 1) (v i) ?_
  rw [show j - i - 1 + 1 = j - i by omega]; exact p
/-- Paths whose inner places are below k. -/
def PathK (l : List Pr) (k : Nat) : Nat → Nat → Nat → Prop
  | 0, _, _ => False
  | m + 1, a, b => (m = 0 ∧ adj l a b) ∨ ∃ c, c < k ∧ adj l a c ∧ PathK l k m c b
theorem pathK_of {n : Nat} {l : List Pr} (hl : okL n l) : ∀ {m a b : Nat}, Path l (m + 1) a b → PathK l n (m + 1) a b
  | 0, a, b, ⟨c, hc, h⟩ => by
    have h : c = b := h
    subst h; exact .inl ⟨rfl, hc⟩
  | m + 1, a, b, ⟨c, hc, h⟩ => .inr ⟨c, (adj_lt hl hc).2, hc, pathK_of hl h⟩
theorem pathK_zero {l : List Pr} {m a b : Nat} (h : PathK l 0 m a b) : m = 1 ∧ adj l a b := by
  cases m with
  | zero => exact h.elim
  | succ m =>
    rcases h with ⟨h1, h2⟩ | ⟨c, hc, _⟩
    · exact ⟨by omega, h2⟩
    · omega
theorem pathK_split {l : List Pr} {k : Nat} : ∀ {m a b : Nat}, PathK l (k + 1) m a b → (∃ m', m' ≤ m ∧ PathK l k m' a b) ∨ ∃ m1 m2, m1 + m2 ≤ m ∧ PathK l k m1 a k ∧ PathK l k m2 k b
  | 0, _, _, h => h.elim
  | m + 1, a, b, .inl ⟨h0, h⟩ => .inl ⟨1, by omega, .inl ⟨rfl, h⟩⟩
  | m + 1, a, b, .inr ⟨c, hc, ha, h⟩ => by
    by_cases hck : c = k
    · subst hck
      have h1 : PathK l c 1 a c := .inl ⟨rfl, ha⟩
      rcases pathK_split h with ⟨m', hm, h'⟩ | ⟨m1, m2, hm, _, h''⟩
      · exact .inr ⟨1, m', by omega, h1, h'⟩
      · exact .inr ⟨1, m2, by omega, h1, h''⟩
    · rcases pathK_split h with ⟨m', hm, h'⟩ | ⟨m1, m2, hm, h', h''⟩
      · exact .inl ⟨m' + 1, by omega, .inr ⟨c, by omega, ha, h'⟩⟩
      · exact .inr ⟨m1 + 1, m2, by omega, .inr ⟨c, by omega, ha, h'⟩, h''⟩
end Topo
end Go.Proofs.Ytjibdljdkgedcaa
