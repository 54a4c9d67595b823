/- the plain law: no increasing list of places is longer than the one that is chosen -/
import Derived.Test.YtophkniaaifmiaaLis
namespace Go.Proofs.Ytophkniaaifmiaa
def Lis.Good (l o : List Int) (k : Nat) : Prop := ∀ j, j < k → 0 ≤ o.getD j 0 ∧ o.getD j 0 < l.length ∧ (0 < j → o.getD (j - 1) 0 < o.getD j 0 ∧ l.getD (o.getD (j - 1) 0).toNat 0 < l.getD (o.getD j 0).toNat 0)
theorem getD_get (l : List Int) (i : Nat) (h : i < l.length) : l.getD i 0 = l[i] := by
  rw [List.getD_eq_getElem?_getD, List.getElem?_eq_getElem h]; rfl
theorem Lis.row_ge (l : List Int) (i : Nat) (h : i < l.length) : 1 ≤ (Lis.rows l).getD i 0 ∧ (Lis.rows l).getD i 0 ≤ Lis.most l := by
  have hl := Lis.rows_length l
  rw [getD_get _ i (by omega)]
  exact ⟨Lis.rows_pos l _ (List.getElem_mem _), Lis.foldr_ge _ _ (List.getElem_mem _)⟩
theorem Lis.good_row (l o : List Int) (h : Lis.Good l o o.length) : ∀ d j, j + d + 1 = o.length → ((d + 1 : Nat) : Int) ≤ (Lis.rows l).getD (o.getD j 0).toNat 0
  | 0, j, hj => by
    have h1 := h j (by omega)
    have := (Lis.row_ge l (o.getD j 0).toNat (by omega)).1
    omega
  | d + 1, j, hj => by
    have ih := Lis.good_row l o h d (j + 1) (by omega)
    have h1 := h j (by omega)
    have h2 := h (j + 1) (by omega)
    have h3 := h2.2.2 (by omega)
    simp only [Nat.add_sub_cancel] at h3
    have h4 := Lis.rows_step l (o.getD j 0).toNat (o.getD (j + 1) 0).toNat (by omega) (by omega) (by
      have q := h3.2
      rw [getD_get l _ (by omega), getD_get l _ (by omega)] at q
      exact q)
    omega
theorem Lis.good_most (l o : List Int) (h : Lis.Good l o o.length) : (o.length : Int) ≤ Lis.most l := by
  cases ho : o.length with
  | zero => have := (Lis.most_bd l).1; simpa using this
  | succ n =>
    have h1 := Lis.good_row l o h n 0 (by omega)
    have h2 := h 0 (by omega)
    have h3 := (Lis.row_ge l (o.getD 0 0).toNat (by omega)).2
    omega
theorem Lis.sel_inv (l : List Int) : ∀ n, n ≤ l.length → ((Lis.sel l n).length : Int) = Lis.most l ∨
    (((Lis.sel l n).length : Int) < Lis.most l ∧ ∃ j, n ≤ j ∧ j < l.length ∧ (Lis.rows l).getD j 0 = Lis.most l - (Lis.sel l n).length ∧ (Lis.sel l n = [] ∨ l.getD ((Lis.sel l n).getLastD 0) 0 < l.getD j 0))
  | 0, _ => by
    have hb := Lis.most_bd l
    rcases Lis.foldr_reach (Lis.rows l) with h | h
    · left; show (0 : Int) = _; unfold Lis.most; exact h.symm
    · have hp := Lis.rows_pos l _ h
      right
      refine ⟨by show (0 : Int) < _; unfold Lis.most; omega, ?_⟩
      obtain ⟨j, hj, he⟩ := List.getElem_of_mem h
      have hl := Lis.rows_length l
      refine ⟨j, Nat.zero_le _, by omega, ?_, .inl rfl⟩
      rw [getD_get _ j hj, he]
      show _ = Lis.most l - (0 : Int)
      unfold Lis.most; omega
  | n + 1, hn => by
    have ih := Lis.sel_inv l n (by omega)
    have hs := Lis.sel_succ l n
    rcases ih with ih | ⟨hlt, j, hj1, hj2, hj3, hj4⟩
    · left
      rw [hs]; unfold Lis.sel1; rw [if_neg (by omega)]; exact ih
    · by_cases hc : ((Lis.sel l n).length : Int) < Lis.most l ∧ (Lis.rows l).getD n 0 = Lis.most l - (Lis.sel l n).length ∧ (Lis.sel l n = [] ∨ l.getD ((Lis.sel l n).getLastD 0) 0 < l.getD n 0)
      · have hs' : Lis.sel l (n + 1) = Lis.sel l n ++ [n] := by rw [hs]; unfold Lis.sel1; rw [if_pos hc]
        rw [hs']
        have hlen : ((Lis.sel l n ++ [n]).length : Int) = (Lis.sel l n).length + 1 := by simp
        have hlast : (Lis.sel l n ++ [n]).getLastD 0 = n := by simp
        rw [hlen, hlast]
        by_cases he : ((Lis.sel l n).length : Int) + 1 = Lis.most l
        · exact .inl he
        · right
          refine ⟨by omega, ?_⟩
          obtain ⟨j', q1, q2, q3, q4⟩ := Lis.rows_next l n (by omega) (by omega)
          refine ⟨j', by omega, q2, by omega, .inr ?_⟩
          rw [getD_get l n (by omega), getD_get l j' q2]; exact q3
      · have hs' : Lis.sel l (n + 1) = Lis.sel l n := by rw [hs]; unfold Lis.sel1; rw [if_neg hc]
        rw [hs']
        right
        refine ⟨hlt, j, ?_, hj2, hj3, hj4⟩
        rcases Nat.lt_or_ge n j with h | h
        · omega
        · have : j = n := by omega
          subst this
          exact (hc ⟨hlt, hj3, hj4⟩).elim
theorem Lis.sel_all (l : List Int) : ((Lis.sel l l.length).length : Int) = Lis.most l := by
  rcases Lis.sel_inv l l.length (Nat.le_refl _) with h | ⟨_, j, h1, h2, _⟩
  · exact h
  · omega
theorem Lis.longest (l o : List Int) (hl : l.length ≤ 256) (h : Lis.Good l o o.length) : o.length ≤ (Lis.lis l).length := by
  have h1 := Lis.good_most l o h
  have h2 := Lis.sel_all l
  unfold Lis.lis
  rw [if_neg (by omega)]
  omega
end Go.Proofs.Ytophkniaaifmiaa
