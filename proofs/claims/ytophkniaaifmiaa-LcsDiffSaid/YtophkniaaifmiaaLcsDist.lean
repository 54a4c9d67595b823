/-
  The length of a longest common subsequence, plain: it is one, none is longer; the number of the other words is a metric. No condition.
-/
import Derived.Test.YtophkniaaifmiaaLcs
namespace Go.Proofs.Ytophkniaaifmiaa.Lcs
variable {α : Type} [DecidableEq α]
theorem len_sub : ∀ (n : Nat) (a b : List α), a.length + b.length ≤ n → ∃ s : List α, s.Sublist a ∧ s.Sublist b ∧ s.length = len a b
  | _, [], b, _ => ⟨[], List.Sublist.refl _, List.nil_sublist _, rfl⟩
  | _, x :: xs, [], _ => ⟨[], List.nil_sublist _, List.Sublist.refl _, by rw [len_nil]; rfl⟩
  | 0, x :: xs, y :: ys, h => by simp at h
  | n + 1, x :: xs, y :: ys, h => by
    simp only [List.length_cons] at h
    obtain ⟨s1, h1, h2, h3⟩ := len_sub n xs (y :: ys) (by simp only [List.length_cons]; omega)
    obtain ⟨s2, g1, g2, g3⟩ := len_sub n (x :: xs) ys (by simp only [List.length_cons]; omega)
    obtain ⟨s3, k1, k2, k3⟩ := len_sub n xs ys (by omega)
    rw [len_cons]
    split
    · rename_i he
      subst he
      by_cases c1 : len xs ys + 1 ≤ max (len xs (x :: ys)) (len (x :: xs) ys)
      · by_cases c2 : len (x :: xs) ys ≤ len xs (x :: ys)
        · exact ⟨s1, h1.cons _, h2, by omega⟩
        · exact ⟨s2, g1, g2.cons _, by omega⟩
      · exact ⟨x :: s3, k1.cons_cons _, k2.cons_cons _, by simp only [List.length_cons]; omega⟩
    · by_cases c2 : len (x :: xs) ys ≤ len xs (y :: ys)
      · exact ⟨s1, h1.cons _, h2, by omega⟩
      · exact ⟨s2, g1, g2.cons _, by omega⟩
theorem sub_len : ∀ (n : Nat) (a b s : List α), a.length + b.length ≤ n → s.Sublist a → s.Sublist b → s.length ≤ len a b
  | _, [], b, s, _, h1, _ => by have := List.Sublist.length_le h1; simp at this; simp [this]
  | _, x :: xs, [], s, _, _, h2 => by have := List.Sublist.length_le h2; simp at this; simp [this]
  | 0, x :: xs, y :: ys, s, h, _, _ => by simp at h
  | n + 1, x :: xs, y :: ys, s, h, h1, h2 => by
    simp only [List.length_cons] at h
    have hc := len_cons x y xs ys
    cases h1 with
    | cons _ h1 =>
      have := sub_len n xs (y :: ys) s (by simp only [List.length_cons]; omega) h1 h2
      rw [hc]; split <;> omega
    | cons_cons _ h1 =>
      rename_i s'
      cases h2 with
      | cons _ h2 =>
        have := sub_len n (x :: xs) ys (x :: s') (by simp only [List.length_cons]; omega) (h1.cons_cons x) h2
        rw [hc]; split <;> omega
      | cons_cons _ h2 =>
        have := sub_len n xs ys s' (by omega) h1 h2
        rw [hc, if_pos rfl]
        simp only [List.length_cons]; omega
omit [DecidableEq α] in
theorem both_sub : ∀ (b s t : List α), s.Sublist b → t.Sublist b → ∃ u : List α, u.Sublist s ∧ u.Sublist t ∧ s.length + t.length ≤ b.length + u.length
  | [], s, t, h1, h2 => by
    have a1 := List.Sublist.length_le h1; have a2 := List.Sublist.length_le h2
    exact ⟨[], List.nil_sublist _, List.nil_sublist _, by simp at a1 a2 ⊢; simp [a1, a2]⟩
  | x :: b, s, t, h1, h2 => by
    cases h1 with
    | cons _ h1 =>
      cases h2 with
      | cons _ h2 =>
        obtain ⟨u, k1, k2, k3⟩ := both_sub b s t h1 h2
        exact ⟨u, k1, k2, by simp only [List.length_cons]; omega⟩
      | cons_cons _ h2 =>
        rename_i t'
        obtain ⟨u, k1, k2, k3⟩ := both_sub b s t' h1 h2
        exact ⟨u, k1, k2.cons _, by simp only [List.length_cons]; omega⟩
    | cons_cons _ h1 =>
      rename_i s'
      cases h2 with
      | cons _ h2 =>
        obtain ⟨u, k1, k2, k3⟩ := both_sub b s' t h1 h2
        exact ⟨u, k1.cons _, k2, by simp only [List.length_cons]; omega⟩
      | cons_cons _ h2 =>
        rename_i t'
        obtain ⟨u, k1, k2, k3⟩ := both_sub b s' t' h1 h2
        exact ⟨x :: u, k1.cons_cons _, k2.cons_cons _, by simp only [List.length_cons]; omega⟩
theorem len_ge (a b s : List α) (h1 : s.Sublist a) (h2 : s.Sublist b) : s.length ≤ len a b := sub_len _ a b s (Nat.le_refl _) h1 h2
theorem len_ex (a b : List α) : ∃ s : List α, s.Sublist a ∧ s.Sublist b ∧ s.length = len a b := len_sub _ a b (Nat.le_refl _)
theorem len_comm (a b : List α) : len a b = len b a := by
  obtain ⟨s, h1, h2, h3⟩ := len_ex a b
  obtain ⟨t, k1, k2, k3⟩ := len_ex b a
  have := len_ge b a s h2 h1
  have := len_ge a b t k2 k1
  omega
theorem len_tri (a b c : List α) : len a b + len b c ≤ b.length + len a c := by
  obtain ⟨s, h1, h2, h3⟩ := len_ex a b
  obtain ⟨t, k1, k2, k3⟩ := len_ex b c
  obtain ⟨u, q1, q2, q3⟩ := both_sub b s t h2 k1
  have := len_ge a c u (q1.trans h1) (q2.trans k2)
  omega
theorem len_self (a : List α) : len a a = a.length := by
  have := len_ge a a a (List.Sublist.refl _) (List.Sublist.refl _)
  have := len_le1 a a
  omega
theorem len_eq (a b : List α) : 2 * len a b = a.length + b.length ↔ a = b := by
  constructor
  · intro h
    obtain ⟨s, h1, h2, h3⟩ := len_ex a b
    have e1 := h1.length_le; have e2 := h2.length_le
    have g1 := h1.eq_of_length (by omega)
    have g2 := h2.eq_of_length (by omega)
    exact g1.symm.trans g2
  · rintro rfl
    rw [len_self]; omega
theorem len_le2 (a b : List α) : len a b ≤ b.length := by rw [len_comm]; exact len_le1 b a
theorem pairsF_length (a b : List α) : ∀ n i k, (pairsF a b n i k).length = n
  | 0, _, _ => rfl
  | n + 1, i, k => by simp [pairsF, pairsF_length a b n]
theorem pairs_length (a b : List α) (ha : a.length ≤ 256) (hb : b.length ≤ 256) : (pairs a b).length = len a b := by
  unfold pairs
  rw [if_neg (by omega)]
  unfold pairsFrom
  rw [pairsF_length]
  simp [at_]
theorem pairs_long (a b : List α) (h : 256 < a.length ∨ 256 < b.length) : pairs a b = [] := by unfold pairs; rw [if_pos h]
theorem pairs_le (a b : List α) : (pairs a b).length ≤ 256 ∧ (pairs a b).length ≤ a.length ∧ (pairs a b).length ≤ b.length := by
  by_cases h : 256 < a.length ∨ 256 < b.length
  · rw [pairs_long a b h]; simp
  · rw [pairs_length a b (by omega) (by omega)]
    have := len_le1 a b; have := len_le2 a b
    omega
def dist (a b : List α) : Int := (a.length : Int) + b.length - 2 * (pairs a b).length
theorem dist_facts (a b c : List α) (ha : a.length ≤ 256) (hb : b.length ≤ 256) (hc : c.length ≤ 256) :
    dist a b = dist b a ∧ dist a c ≤ dist a b + dist b c ∧ dist a a = 0 ∧ (dist a b = 0 ↔ a = b) ∧ 0 ≤ dist a b := by
  unfold dist
  rw [pairs_length a b ha hb, pairs_length b a hb ha, pairs_length a c ha hc, pairs_length b c hb hc, pairs_length a a ha ha]
  have h1 := len_comm a b
  have h2 := len_tri a b c
  have h3 := len_self a
  have h4 := len_eq a b
  have h5 := len_le1 a b
  have h6 := len_le2 a b
  refine ⟨by omega, by omega, by omega, ?_, by omega⟩
  rw [← h4]; omega
theorem dist_le (a b : List α) : 0 ≤ dist a b ∧ dist a b ≤ a.length + b.length := by
  unfold dist
  have := pairs_le a b
  omega
end Go.Proofs.Ytophkniaaifmiaa.Lcs
