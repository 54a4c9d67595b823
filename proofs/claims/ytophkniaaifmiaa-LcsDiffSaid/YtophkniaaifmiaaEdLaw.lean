/-
  What edits do, plain: the inverse undoes them; they touch no fewer words than the distance; the edits between two lists lead from the one to the other. No condition.
-/
import Derived.Test.YtophkniaaifmiaaEd
import Derived.Test.YtophkniaaifmiaaLcsDist
namespace Go.Proofs.Ytophkniaaifmiaa
open Abs
theorem fits_all {a : List ByteArray} {f : Int} {e : Ed} (h : fitsB a f e = true) : f ≤ e.at_ ∧ e.at_ ≤ a.length ∧ (e.old.length : Int) ≤ a.length - e.at_ ∧ e.old.length + e.new.length ≠ 0 ∧ (a.take (e.at_ + e.old.length).toNat).drop e.at_.toNat = e.old := of_decide_eq_true h
theorem app_cases {a : List ByteArray} {e : Ed} {l : List Ed} {b : Bool} {f : Int} {r : List ByteArray} (h : app a (e :: l) b f = some r) :
    fitsB a f e = true ∧ (b = true ∨ e.at_ ≠ f) ∧ ∃ r', app a l false (e.at_ + e.old.length) = some r' ∧ r = (a.take e.at_.toNat).drop f.toNat ++ e.new ++ r' := by
  rw [app] at h
  split at h
  · rename_i hc
    simp only [Option.map_eq_some_iff] at h
    obtain ⟨r', h1, h2⟩ := h
    exact ⟨hc.1, hc.2, r', h1, h2.symm⟩
  · cases h
theorem drop_split {α : Type} (a : List α) (i j : Nat) (h : i ≤ j) : a.drop i = (a.take j).drop i ++ a.drop j := by
  conv => lhs; rw [← List.take_append_drop j a]
  rw [List.drop_append]
  by_cases hj : j ≤ a.length
  · have : (a.take j).length = j := by simp; omega
    rw [this, Nat.sub_eq_zero_of_le h, List.drop_zero]
  · rw [List.drop_eq_nil_of_le (show a.length ≤ j by omega)]; simp
theorem drop_mid {α : Type} (a p q s : List α) (i : Nat) (h : a.drop i = p ++ q ++ s) : (a.take (i + p.length + q.length)).drop (i + p.length) = q ∧ (a.take (i + p.length)).drop i = p ∧ a.drop (i + p.length + q.length) = s := by
  have h2 : ∀ n, a.drop (i + n) = (p ++ q ++ s).drop n := fun n => by rw [← List.drop_drop, h]
  have h3 : ∀ n m, (a.take (i + n + m)).drop (i + n) = ((p ++ q ++ s).drop n).take m := fun n m => by
    rw [List.drop_take, h2]; congr 1; omega
  refine ⟨?_, ?_, ?_⟩
  · rw [h3, List.append_assoc, List.drop_left, List.take_left]
  · have := h3 0 p.length
    simp only [Nat.add_zero, List.drop_zero] at this
    rw [this, List.append_assoc, List.take_left]
  · rw [Nat.add_assoc, h2, ← List.length_append, List.drop_left]
/-- The inverse undoes. -/
theorem app_inv (a : List ByteArray) (ha : a.length ≤ 1000000) : ∀ (l : List Ed) (fst : Bool) (f m : Int) (r b : List ByteArray), b.length ≤ 1000000 → 0 ≤ f → f ≤ a.length → 0 ≤ f + m → app a l fst f = some r → b.drop (f + m).toNat = r → f + m + r.length = b.length →
    app b (invF l m) fst (f + m) = some (a.drop f.toNat)
  | [], fst, f, m, r, b, _, hf, hfa, hm, h, hb, hl => by
    simp only [app, Option.some.injEq] at h
    rw [invF, app, hb, h]
  | e :: l, fst, f, m, r, b, hbl, hf, hfa, hm, h, hb, hl => by
    obtain ⟨hfit, hc, r', h1, rfl⟩ := app_cases h
    obtain ⟨g1, g2, g3, g4, g5⟩ := fits_all hfit
    have hpl : ((a.take e.at_.toNat).drop f.toNat).length = (e.at_ - f).toNat := by simp; omega
    simp only [List.length_append, hpl] at hl
    have hmid := drop_mid b _ _ _ (f + m).toNat hb
    rw [hpl] at hmid
    obtain ⟨k1, k2, k3⟩ := hmid
    have e1 : (f + m).toNat + (e.at_ - f).toNat = (e.at_ + m).toNat := by omega
    have e2 : (e.at_ + m).toNat + e.new.length = (e.at_ + m + e.new.length).toNat := by omega
    rw [e1] at k1 k2 k3
    rw [e2] at k1 k3
    have hw : IntKind.i64.wrap (e.at_ + m) = e.at_ + m := wrapI (by omega)
    have ih := app_inv a ha l false (e.at_ + e.old.length) (m + (e.new.length - e.old.length)) r' b hbl (by omega) (by omega) (by omega) h1 (by
      rw [← k3]; congr 1; omega) (by omega)
    rw [invF, hw]
    have hfit' : fitsB b (f + m) ⟨e.at_ + m, e.new, e.old⟩ = true := decide_eq_true ⟨by simp only; omega, by simp only; omega, by simp only; omega, by simp only; omega, k1⟩
    rw [app, if_pos ⟨hfit', by
      rcases hc with hc | hc
      · exact .inl hc
      · exact .inr (by simp only; omega)⟩]
    simp only
    have e3 : e.at_ + m + (e.new.length : Int) = e.at_ + e.old.length + (m + (e.new.length - e.old.length)) := by omega
    rw [e3, ih, Option.map_some, k2]
    congr 1
    have e4 : (e.at_ + (e.old.length : Int)).toNat = e.at_.toNat + e.old.length := by omega
    rw [drop_split a f.toNat e.at_.toNat (by omega), drop_split a e.at_.toNat (e.at_ + e.old.length).toNat (by omega), g5, List.append_assoc]
/-- How many words edits touch. -/
def touch : List Ed → Int
  | [] => 0
  | e :: l => e.old.length + e.new.length + touch l
theorem app_touch (a : List ByteArray) : ∀ (l : List Ed) (fst : Bool) (f : Int) (r : List ByteArray), 0 ≤ f → f ≤ a.length → app a l fst f = some r →
    ∃ s : List ByteArray, s.Sublist (a.drop f.toNat) ∧ s.Sublist r ∧ (a.drop f.toNat).length + r.length ≤ touch l + 2 * s.length
  | [], fst, f, r, _, _, h => by
    simp only [app, Option.some.injEq] at h
    subst h
    exact ⟨_, List.Sublist.refl _, List.Sublist.refl _, by simp only [touch]; omega⟩
  | e :: l, fst, f, r, hf, hfa, h => by
    obtain ⟨hfit, hc, r', h1, rfl⟩ := app_cases h
    obtain ⟨g1, g2, g3, g4, g5⟩ := fits_all hfit
    obtain ⟨s, s1, s2, s3⟩ := app_touch a l false _ r' (by omega) (by omega) h1
    refine ⟨(a.take e.at_.toNat).drop f.toNat ++ s, ?_, ?_, ?_⟩
    · rw [drop_split a f.toNat e.at_.toNat (by omega)]
      refine List.Sublist.append (List.Sublist.refl _) ?_
      rw [drop_split a e.at_.toNat (e.at_ + e.old.length).toNat (by omega)]
      exact s1.trans (List.sublist_append_right _ _)
    · rw [List.append_assoc]
      exact List.Sublist.append (List.Sublist.refl _) (s2.trans (List.sublist_append_right _ _))
    · simp only [touch, List.length_append, List.length_drop, List.length_take] at s3 ⊢
      omega
theorem touch_dist (a b : List ByteArray) (l : List Ed) (ha : a.length ≤ 256) (hb : b.length ≤ 256) (h : app a l true 0 = some b) : Lcs.dist a b ≤ touch l := by
  obtain ⟨s, s1, s2, s3⟩ := app_touch a l true 0 b (by omega) (by omega) h
  simp only [Int.toNat_zero, List.drop_zero] at s1 s3
  have := Lcs.len_ge a b s s1 s2
  unfold Lcs.dist
  rw [Lcs.pairs_length a b ha hb]
  omega
/-- Pairs that rise, of equal words. -/
def chain (a b : List ByteArray) : List (Nat × Nat) → Nat → Nat → Prop
  | [], _, _ => True
  | p :: l, i, k => i ≤ p.1 ∧ p.1 < a.length ∧ k ≤ p.2 ∧ p.2 < b.length ∧ a[p.1]? = b[p.2]? ∧ chain a b l (p.1 + 1) (p.2 + 1)
theorem chain_pairsF (a b : List ByteArray) : ∀ (n i k : Nat), Lcs.at_ a b i k = n → chain a b (Lcs.pairsF a b n i k) i k
  | 0, _, _, _ => trivial
  | n + 1, i, k, h => by
    obtain ⟨q1, q2, q3, q4, q5, q6⟩ := Lcs.next_good a b i k n h
    exact ⟨q1, q2, q3, q4, q5, chain_pairsF a b n _ _ q6⟩
theorem chain_pairs (a b : List ByteArray) : chain a b (Lcs.pairs a b) 0 0 := by
  unfold Lcs.pairs
  split
  · trivial
  · exact chain_pairsF a b _ 0 0 rfl
theorem touch_append : ∀ (l m : List Ed), touch (l ++ m) = touch l + touch m
  | [], m => by simp [touch]
  | e :: l, m => by simp only [List.cons_append, touch, touch_append l m]; omega
theorem cuts_cons (a b : List ByteArray) (p : Nat × Nat) (l : List (Nat × Nat)) (i k : Nat) : cuts a b (p :: l) i k = (if i < p.1 ∨ k < p.2 then [⟨i, (a.take p.1).drop i, (b.take p.2).drop k⟩] else []) ++ cuts a b l (p.1 + 1) (p.2 + 1) := rfl
theorem touch_cuts (a b : List ByteArray) : ∀ (l : List (Nat × Nat)) (i k : Nat), chain a b l i k → i ≤ a.length → k ≤ b.length →
    touch (cuts a b (l ++ [(a.length, b.length)]) i k) = (a.length : Int) - i + (b.length - k) - 2 * l.length
  | [], i, k, _, h1, h2 => by
    simp only [List.nil_append, cuts, List.append_nil]
    split
    · simp [touch]; omega
    · simp [touch]; omega
  | p :: l, i, k, h, h1, h2 => by
    obtain ⟨q1, q2, q3, q4, _, q6⟩ := h
    have ih := touch_cuts a b l (p.1 + 1) (p.2 + 1) q6 (by omega) (by omega)
    rw [List.cons_append, cuts_cons, touch_append, ih]
    split
    · simp [touch]; omega
    · simp [touch]; omega
theorem take_one {α : Type} (a : List α) (i : Nat) (h : i < a.length) : (a.take (i + 1)).drop i = [a[i]] := by
  rw [List.take_succ_eq_append_getElem h]
  exact List.drop_left' (by simp; omega)
theorem app_cuts (a b : List ByteArray) (ha : a.length ≤ 1000000) : ∀ (l : List (Nat × Nat)) (fst : Bool) (f i k : Nat), chain a b l i k → i ≤ a.length → k ≤ b.length → f ≤ i → (fst = true ∨ f < i) →
    app a (cuts a b (l ++ [(a.length, b.length)]) i k) fst f = some ((a.take i).drop f ++ b.drop k)
  | [], fst, f, i, k, _, h1, h2, h3, h4 => by
    simp only [List.nil_append, cuts, List.append_nil]
    split
    · rename_i hc
      have hfit : fitsB a f ⟨i, (a.take a.length).drop i, (b.take b.length).drop k⟩ = true := by
        refine decide_eq_true ⟨by simp only; omega, by simp only; omega, by simp; omega, by simp; omega, ?_⟩
        simp only [Int.toNat_natCast]
        have : ((i : Int) + ((List.drop i (List.take a.length a)).length : Nat)).toNat = a.length := by simp; omega
        rw [this]
      rw [app, if_pos ⟨hfit, by
        rcases h4 with h4 | h4
        · exact .inl h4
        · exact .inr (by simp only; omega)⟩, app, Option.map_some]
      simp only [Int.toNat_natCast]
      have : ((i : Int) + ((List.drop i (List.take a.length a)).length : Nat)).toNat = a.length := by simp; omega
      rw [this, List.drop_length, List.take_length, List.append_nil]
    · rename_i hc
      have h5 : i = a.length := by omega
      have h6 : k = b.length := by omega
      subst h5; subst h6
      rw [app]; simp
  | p :: l, fst, f, i, k, h, h1, h2, h3, h4 => by
    obtain ⟨q1, q2, q3, q4, q5, q6⟩ := h
    have hab : (a.take (p.1 + 1)).drop p.1 ++ b.drop (p.2 + 1) = b.drop p.2 := by
      rw [take_one a _ q2, List.drop_eq_getElem_cons q4]
      rw [List.getElem?_eq_getElem q2, List.getElem?_eq_getElem q4] at q5
      rw [Option.some.inj q5]; rfl
    rw [List.cons_append, cuts_cons]
    split
    · rename_i hc
      have hlen : ((i : Int) + (((a.take p.1).drop i).length : Nat)) = (p.1 : Int) := by simp; omega
      have hfit : fitsB a f ⟨i, (a.take p.1).drop i, (b.take p.2).drop k⟩ = true := by
        refine decide_eq_true ⟨by simp only; omega, by simp only; omega, by simp; omega, by simp; omega, ?_⟩
        simp only [hlen, Int.toNat_natCast]
      rw [List.cons_append, List.nil_append, app, if_pos ⟨hfit, by
        rcases h4 with h4 | h4
        · exact .inl h4
        · exact .inr (by simp only; omega)⟩]
      simp only [hlen, Int.toNat_natCast]
      rw [app_cuts a b ha l false p.1 (p.1 + 1) (p.2 + 1) q6 (by omega) (by omega) (by omega) (.inr (by omega)), Option.map_some, hab]
      congr 1
      rw [List.append_assoc, ← drop_split b k p.2 (by omega)]
    · rename_i hc
      have h5 : p.1 = i := by omega
      have h6 : p.2 = k := by omega
      rw [List.nil_append, app_cuts a b ha l fst f (p.1 + 1) (p.2 + 1) q6 (by omega) (by omega) (by omega) (.inr (by omega)), h5, h6]
      rw [h5, h6] at hab
      congr 1
      rw [drop_split (a.take (i + 1)) f i (by omega), List.take_take, Nat.min_eq_left (by omega), List.append_assoc, hab]
/-- The edits lead from the one list to the other. -/
theorem app_diff (a b : List ByteArray) (ha : a.length ≤ 1000000) : app a (diffS a b) true 0 = some b := by
  unfold diffS
  split
  · rename_i h
    rw [app, h.2]; rfl
  · have := app_cuts a b ha (Lcs.pairs a b) true 0 0 0 (chain_pairs a b) (by omega) (by omega) (by omega) (.inl rfl)
    simpa using this
theorem touch_diff (a b : List ByteArray) : touch (diffS a b) = if (256 < a.length ∨ 256 < b.length) ∧ a = b then 0 else Lcs.dist a b := by
  unfold diffS
  split
  · rfl
  · have := touch_cuts a b (Lcs.pairs a b) 0 0 (chain_pairs a b) (by omega) (by omega)
    rw [this]; unfold Lcs.dist; simp
theorem touch_zero : ∀ (l : List Ed), (∀ e ∈ l, e.old.length + e.new.length ≠ 0) → touch l = 0 → l = []
  | [], _, _ => rfl
  | e :: l, h, h0 => by
    have h1 := h e (by simp)
    have hnn : ∀ (l : List Ed), 0 ≤ touch l := by
      intro l
      induction l with
      | nil => simp [touch]
      | cons e l ih => simp only [touch]; omega
    have := hnn l
    simp only [touch] at h0
    omega
theorem cuts_ne (a b : List ByteArray) : ∀ (l : List (Nat × Nat)) (i k : Nat), chain a b l i k → i ≤ a.length → k ≤ b.length → ∀ e ∈ cuts a b (l ++ [(a.length, b.length)]) i k, e.old.length + e.new.length ≠ 0
  | [], i, k, _, h1, h2, e, he => by
    simp only [List.nil_append, cuts, List.append_nil] at he
    split at he
    · simp at he; subst he; simp; omega
    · simp at he
  | p :: l, i, k, h, h1, h2, e, he => by
    obtain ⟨q1, q2, q3, q4, q5, q6⟩ := h
    rw [List.cons_append, cuts_cons] at he
    rcases List.mem_append.1 he with he | he
    · split at he
      · simp at he; subst he; simp; omega
      · simp at he
    · exact cuts_ne a b l _ _ q6 (by omega) (by omega) e he
theorem diff_nil (a b : List ByteArray) : diffS a b = [] ↔ a = b := by
  constructor
  · intro h
    have h1 := touch_diff a b
    rw [h] at h1
    split at h1
    · rename_i h2; exact h2.2
    · rename_i h2
      simp only [touch] at h1
      by_cases hl : 256 < a.length ∨ 256 < b.length
      · unfold Lcs.dist at h1
        rw [Lcs.pairs_long a b hl] at h1
        simp at h1
        omega
      · have h3 := Lcs.pairs_length a b (by omega) (by omega)
        unfold Lcs.dist at h1
        rw [h3] at h1
        exact (Lcs.len_eq a b).1 (by omega)
  · rintro rfl
    unfold diffS
    split
    · rfl
    · rename_i hc
      refine touch_zero _ (cuts_ne a a _ 0 0 (chain_pairs a a) (by omega) (by omega)) ?_
      rw [touch_cuts a a (Lcs.pairs a a) 0 0 (chain_pairs a a) (by omega) (by omega)]
      have hl : ¬ (256 < a.length ∨ 256 < a.length) := fun h => hc ⟨h, rfl⟩
      rw [Lcs.pairs_length a a (by omega) (by omega), Lcs.len_self]
      omega
end Go.Proofs.Ytophkniaaifmiaa
