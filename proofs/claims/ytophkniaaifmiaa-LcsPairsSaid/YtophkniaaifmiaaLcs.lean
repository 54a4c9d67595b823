/-
  The plain law of longest common subsequences: their length by suffixes, and the table that the program and the reference fill. No condition.
-/
import Derived.Test.YtophkniaaifmiaaAbs16
namespace Go.Proofs.Ytophkniaaifmiaa.Lcs
section
variable {α : Type} [DecidableEq α]
def row (x : α) (f : List α → Nat) : List α → Nat
  | [] => 0
  | y :: ys => if x = y then max (max (f (y :: ys)) (row x f ys)) (f ys + 1) else max (f (y :: ys)) (row x f ys)
/-- The length of a longest common subsequence. -/
def len : List α → List α → Nat
  | [], _ => 0
  | x :: xs, ys => row x (len xs) ys
theorem len_nil : ∀ (a : List α), len a [] = 0
  | [] => rfl
  | _ :: _ => rfl
theorem len_cons (x y : α) (xs ys : List α) : len (x :: xs) (y :: ys) = if x = y then max (max (len xs (y :: ys)) (len (x :: xs) ys)) (len xs ys + 1) else max (len xs (y :: ys)) (len (x :: xs) ys) := rfl
/-- Of the suffixes from i and k on. -/
def at_ (a b : List α) (i k : Nat) : Nat := len (a.drop i) (b.drop k)
theorem at_end1 (a b : List α) (i k : Nat) (h : a.length ≤ i) : at_ a b i k = 0 := by unfold at_; rw [List.drop_eq_nil_of_le h]; rfl
theorem at_end2 (a b : List α) (i k : Nat) (h : b.length ≤ k) : at_ a b i k = 0 := by unfold at_; rw [List.drop_eq_nil_of_le h]; exact len_nil _
theorem at_step (a b : List α) (i k : Nat) (hi : i < a.length) (hk : k < b.length) :
    at_ a b i k = if a[i] = b[k] then max (max (at_ a b (i + 1) k) (at_ a b i (k + 1))) (at_ a b (i + 1) (k + 1) + 1) else max (at_ a b (i + 1) k) (at_ a b i (k + 1)) := by
  unfold at_
  rw [List.drop_eq_getElem_cons hi, List.drop_eq_getElem_cons hk, len_cons]
theorem len_le1 : ∀ (a b : List α), len a b ≤ a.length
  | [], _ => Nat.le_refl 0
  | x :: xs, b => by
    have ih := len_le1 xs
    have key : ∀ b : List α, len (x :: xs) b ≤ xs.length + 1 := by
      intro b
      induction b with
      | nil => exact Nat.zero_le _
      | cons y ys ihb =>
        rw [len_cons]
        have h1 := ih (y :: ys)
        have h2 := ih ys
        split <;> omega
    simpa using key b
theorem at_le (a b : List α) (i k : Nat) : at_ a b i k ≤ a.length := by
  have := len_le1 (a.drop i) (b.drop k)
  simp only [List.length_drop] at this
  unfold at_; omega

/-- The table, row by row. -/
def tab (a b : List α) : List Int := (List.range ((a.length + 1) * (b.length + 1))).map fun p => (at_ a b (p / (b.length + 1)) (p % (b.length + 1)) : Int)
theorem idx_lt {n w i k : Nat} (hi : i < n) (hk : k < w) : i * w + k < n * w := by
  have := Nat.mul_le_mul_right w (show i + 1 ≤ n by omega)
  rw [Nat.add_mul] at this; omega
theorem idx_inj {w i k i' k' : Nat} (hk : k < w) (hk' : k' < w) (h : i * w + k = i' * w + k') : i = i' ∧ k = k' := by
  have h1 : (i * w + k) / w = i := by rw [Nat.mul_comm, Nat.mul_add_div (by omega), Nat.div_eq_of_lt hk]; omega
  have h2 : (i' * w + k') / w = i' := by rw [Nat.mul_comm, Nat.mul_add_div (by omega), Nat.div_eq_of_lt hk']; omega
  have : i = i' := by rw [← h1, ← h2, h]
  subst this
  exact ⟨rfl, by omega⟩
theorem tab_len (a b : List α) : (tab a b).length = (a.length + 1) * (b.length + 1) := by simp [tab]
theorem tab_get (a b : List α) (i k : Nat) (hi : i ≤ a.length) (hk : k ≤ b.length) : (tab a b)[i * (b.length + 1) + k]? = some (at_ a b i k : Int) := by
  have hlt : i * (b.length + 1) + k < (a.length + 1) * (b.length + 1) := idx_lt (by omega) (by omega)
  unfold tab
  rw [List.getElem?_map, List.getElem?_range hlt, Option.map_some]
  have h1 : (i * (b.length + 1) + k) / (b.length + 1) = i := by rw [Nat.mul_comm, Nat.mul_add_div (by omega), Nat.div_eq_of_lt (by omega)]; omega
  have h2 : (i * (b.length + 1) + k) % (b.length + 1) = k := by rw [Nat.mul_comm, Nat.mul_add_mod, Nat.mod_eq_of_lt (by omega)]
  rw [h1, h2]

/-- The cells that are already filled in. -/
def Known (a b : List α) (cs : List Int) (i k : Nat) : Prop :=
  cs.length = (a.length + 1) * (b.length + 1) ∧ ∀ i' k', i' ≤ a.length → k' ≤ b.length → (i < i' ∨ (i = i' ∧ k ≤ k') ∨ k' = b.length) → cs[i' * (b.length + 1) + k']? = some (at_ a b i' k' : Int)
theorem known_zero (a b : List α) : Known a b (List.replicate ((a.length + 1) * (b.length + 1)) 0) a.length 0 := by
  refine ⟨by simp, fun i' k' hi hk h => ?_⟩
  have hlt : i' * (b.length + 1) + k' < (a.length + 1) * (b.length + 1) := idx_lt (by omega) (by omega)
  rw [List.getElem?_replicate_of_lt hlt]
  rcases h with h | h | h
  · omega
  · rw [at_end1 a b i' k' (by omega)]; rfl
  · rw [at_end2 a b i' k' (by omega)]; rfl
theorem known_set {a b : List α} {cs : List Int} {i k : Nat} (hi : i ≤ a.length) (hk : k ≤ b.length) (h : Known a b cs i (k + 1)) : Known a b (cs.set (i * (b.length + 1) + k) (at_ a b i k : Int)) i k := by
  refine ⟨by simpa using h.1, fun i' k' hi' hk' hc => ?_⟩
  have hlt : i * (b.length + 1) + k < cs.length := by rw [h.1]; exact idx_lt (by omega) (by omega)
  by_cases he : i * (b.length + 1) + k = i' * (b.length + 1) + k'
  · obtain ⟨rfl, rfl⟩ := idx_inj (by omega) (by omega) he
    rw [List.getElem?_set_self hlt]
  · rw [List.getElem?_set_ne he]
    refine h.2 i' k' hi' hk' ?_
    rcases hc with hc | ⟨rfl, hc⟩ | hc
    · exact .inl hc
    · by_cases hkk : k = k'
      · subst hkk; exact (he rfl).elim
      · exact .inr (.inl ⟨rfl, by omega⟩)
    · exact .inr (.inr hc)
theorem known_row {a b : List α} {cs : List Int} {i : Nat} (h : Known a b cs (i + 1) 0) : Known a b cs i b.length :=
  ⟨h.1, fun i' k' hi' hk' hc => h.2 i' k' hi' hk' (by omega)⟩
theorem known_all {a b : List α} {cs : List Int} (h : Known a b cs 0 0) : cs = tab a b := by
  refine List.ext_getElem? fun p => ?_
  by_cases hp : p < (a.length + 1) * (b.length + 1)
  · have hw : 0 < b.length + 1 := by omega
    have h1 : p / (b.length + 1) ≤ a.length := by
      have := (Nat.div_lt_iff_lt_mul hw).2 hp; omega
    have h2 : p % (b.length + 1) ≤ b.length := by have := Nat.mod_lt p hw; omega
    have h3 : p / (b.length + 1) * (b.length + 1) + p % (b.length + 1) = p := Nat.div_add_mod' p _
    have h4 := h.2 _ _ h1 h2 (by
      rcases Nat.eq_zero_or_pos (p / (b.length + 1)) with h0 | h0
      · exact .inr (.inl ⟨h0.symm, Nat.zero_le _⟩)
      · exact .inl h0)
    have h5 := tab_get a b _ _ h1 h2
    rw [h3] at h4 h5
    rw [h4, h5]
  · rw [List.getElem?_eq_none (by rw [h.1]; omega), List.getElem?_eq_none (by rw [tab_len]; omega)]

/-- Can a longest common subsequence of n begin with the pair x, y? -/
def good (a b : List α) (n x y : Nat) : Bool := decide (a[x]? = b[y]?) && decide (at_ a b (x + 1) (y + 1) + 1 = n)
def inRow (a b : List α) (n x y : Nat) : Option Nat := (List.range' y (b.length - y)).find? (good a b n x)
def search (a b : List α) (n k x : Nat) : Option (Nat × Nat) := (List.range' x (a.length - x)).findSome? fun x => (inRow a b n x k).map fun y => (x, y)
/-- The least pair from i and k on with which a longest one begins. -/
def next (a b : List α) (i k : Nat) : Nat × Nat := (search a b (at_ a b i k) k i).getD (a.length, b.length)
theorem inRow_end (a b : List α) (n x y : Nat) (h : b.length ≤ y) : inRow a b n x y = none := by
  unfold inRow; rw [show b.length - y = 0 by omega]; rfl
theorem inRow_step (a b : List α) (n x y : Nat) (h : y < b.length) : inRow a b n x y = if good a b n x y = true then some y else inRow a b n x (y + 1) := by
  unfold inRow
  rw [show b.length - y = (b.length - (y + 1)) + 1 by omega, List.range'_succ, List.find?_cons]
  split <;> simp_all
theorem search_end (a b : List α) (n k x : Nat) (h : a.length ≤ x) : search a b n k x = none := by
  unfold search; rw [show a.length - x = 0 by omega]; rfl
theorem search_step (a b : List α) (n k x : Nat) (h : x < a.length) : search a b n k x = match inRow a b n x k with | some y => some (x, y) | none => search a b n k (x + 1) := by
  unfold search
  rw [show a.length - x = (a.length - (x + 1)) + 1 by omega, List.range'_succ, List.findSome?_cons]
  cases inRow a b n x k <;> rfl
/-- Where the length is not 0, there is such a pair. -/
theorem good_ex (a b : List α) : ∀ (m i k n : Nat), a.length - i + (b.length - k) ≤ m → at_ a b i k = n + 1 → ∃ x y, i ≤ x ∧ x < a.length ∧ k ≤ y ∧ y < b.length ∧ good a b (n + 1) x y = true := by
  intro m
  induction m with
  | zero => intro i k n hm h; rw [at_end1 a b i k (by omega)] at h; omega
  | succ m ih =>
    intro i k n hm h
    by_cases hi : i < a.length
    · by_cases hk : k < b.length
      · have hs := at_step a b i k hi hk
        have r1 : at_ a b (i + 1) k = n + 1 → ∃ x y, i ≤ x ∧ x < a.length ∧ k ≤ y ∧ y < b.length ∧ good a b (n + 1) x y = true := by
          intro h1
          obtain ⟨x, y, q1, q2, q3, q4, q5⟩ := ih (i + 1) k n (by omega) h1
          exact ⟨x, y, by omega, q2, q3, q4, q5⟩
        have r2 : at_ a b i (k + 1) = n + 1 → ∃ x y, i ≤ x ∧ x < a.length ∧ k ≤ y ∧ y < b.length ∧ good a b (n + 1) x y = true := by
          intro h1
          obtain ⟨x, y, q1, q2, q3, q4, q5⟩ := ih i (k + 1) n (by omega) h1
          exact ⟨x, y, q1, q2, by omega, q4, q5⟩
        by_cases he : a[i] = b[k]
        · rw [if_pos he] at hs
          by_cases h3 : at_ a b (i + 1) (k + 1) + 1 = n + 1
          · refine ⟨i, k, Nat.le_refl _, hi, Nat.le_refl _, hk, ?_⟩
            unfold good
            rw [List.getElem?_eq_getElem hi, List.getElem?_eq_getElem hk, he]
            simp [h3]
          · by_cases h1 : at_ a b (i + 1) k = n + 1
            · exact r1 h1
            · exact r2 (by clear r1 r2 ih; omega)
        · rw [if_neg he] at hs
          by_cases h1 : at_ a b (i + 1) k = n + 1
          · exact r1 h1
          · exact r2 (by clear r1 r2 ih; omega)
      · rw [at_end2 a b i k (by omega)] at h; omega
    · rw [at_end1 a b i k (by omega)] at h; omega
theorem inRow_some {a b : List α} {n x k y : Nat} (h : inRow a b n x k = some y) : k ≤ y ∧ y < b.length ∧ good a b n x y = true := by
  unfold inRow at h
  have h1 := List.mem_of_find?_eq_some h
  have h2 := List.find?_some h
  simp only [List.mem_range'_1] at h1
  exact ⟨by omega, by omega, h2⟩
theorem search_some {a b : List α} {n k i : Nat} {r : Nat × Nat} (h : search a b n k i = some r) : i ≤ r.1 ∧ r.1 < a.length ∧ k ≤ r.2 ∧ r.2 < b.length ∧ good a b n r.1 r.2 = true := by
  unfold search at h
  obtain ⟨x, hx, hr⟩ := List.exists_of_findSome?_eq_some h
  simp only [List.mem_range'_1] at hx
  simp only [Option.map_eq_some_iff] at hr
  obtain ⟨y, hy, rfl⟩ := hr
  obtain ⟨q1, q2, q3⟩ := inRow_some hy
  exact ⟨by omega, by omega, q1, q2, q3⟩
theorem search_none {a b : List α} {n k i : Nat} (h : search a b n k i = none) {x y : Nat} (hx : i ≤ x) (hx' : x < a.length) (hy : k ≤ y) (hy' : y < b.length) : good a b n x y = false := by
  unfold search at h
  rw [List.findSome?_eq_none_iff] at h
  have h1 := h x (by simp only [List.mem_range'_1]; omega)
  simp only [Option.map_eq_none_iff] at h1
  unfold inRow at h1
  rw [List.find?_eq_none] at h1
  have := h1 y (by simp only [List.mem_range'_1]; omega)
  simpa using this
theorem next_good (a b : List α) (i k n : Nat) (h : at_ a b i k = n + 1) : i ≤ (next a b i k).1 ∧ (next a b i k).1 < a.length ∧ k ≤ (next a b i k).2 ∧ (next a b i k).2 < b.length ∧ a[(next a b i k).1]? = b[(next a b i k).2]? ∧ at_ a b ((next a b i k).1 + 1) ((next a b i k).2 + 1) = n := by
  unfold next
  cases hs : search a b (at_ a b i k) k i with
  | none =>
    obtain ⟨x, y, q1, q2, q3, q4, q5⟩ := good_ex a b _ i k n (Nat.le_refl _) h
    rw [h] at hs
    rw [search_none hs q1 q2 q3 q4] at q5; cases q5
  | some r =>
    obtain ⟨q1, q2, q3, q4, q5⟩ := search_some hs
    unfold good at q5
    simp only [Bool.and_eq_true, decide_eq_true_eq] at q5
    rw [Option.getD_some]
    exact ⟨q1, q2, q3, q4, q5.1, by omega⟩
theorem next_lt (a b : List α) (i k : Nat) : (next a b i k).1 ≤ a.length ∧ (next a b i k).2 ≤ b.length := by
  unfold next
  cases hs : search a b (at_ a b i k) k i with
  | none => exact ⟨Nat.le_refl _, Nat.le_refl _⟩
  | some r => obtain ⟨q1, q2, q3, q4, q5⟩ := search_some hs; exact ⟨by rw [Option.getD_some]; omega, by rw [Option.getD_some]; omega⟩
/-- The pairs from i and k on. -/
def pairsF (a b : List α) : Nat → Nat → Nat → List (Nat × Nat)
  | 0, _, _ => []
  | n + 1, i, k => next a b i k :: pairsF a b n ((next a b i k).1 + 1) ((next a b i k).2 + 1)
def pairsFrom (a b : List α) (i k : Nat) : List (Nat × Nat) := pairsF a b (at_ a b i k) i k
theorem pairsFrom_nil (a b : List α) (i k : Nat) (h : at_ a b i k = 0) : pairsFrom a b i k = [] := by unfold pairsFrom; rw [h]; rfl
theorem pairsFrom_cons (a b : List α) (i k : Nat) (h : 0 < at_ a b i k) : pairsFrom a b i k = next a b i k :: pairsFrom a b ((next a b i k).1 + 1) ((next a b i k).2 + 1) := by
  obtain ⟨n, hn⟩ : ∃ n, at_ a b i k = n + 1 := ⟨at_ a b i k - 1, by omega⟩
  have h1 := (next_good a b i k n hn).2.2.2.2.2
  unfold pairsFrom
  rw [hn, h1]; rfl
/-- The lexicographically least longest common subsequence, as pairs of places. -/
def pairs (a b : List α) : List (Nat × Nat) := if 256 < a.length ∨ 256 < b.length then [] else pairsFrom a b 0 0
end
end Go.Proofs.Ytophkniaaifmiaa.Lcs
