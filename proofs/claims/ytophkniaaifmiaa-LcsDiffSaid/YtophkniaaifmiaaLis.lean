/-
  The plain law of longest increasing subsequences: what the program and the reference compute, and that no increasing subsequence is longer. No condition.
-/
import Derived.Test.YtophkniaaifmiaaAbs16
namespace Go.Proofs.Ytophkniaaifmiaa.Lis

/-- One round of the inner loop. -/
def upd1 (x : Int) (acc : Int) (p : Int × Int) : Int := if x < p.1 then max acc (p.2 + 1) else acc
/-- How long an increasing subsequence is that begins at each place. -/
def rows : List Int → List Int
  | [] => []
  | x :: xs => ((xs.zip (rows xs)).foldl (upd1 x) 1) :: rows xs
theorem rows_length : ∀ l, (rows l).length = l.length
  | [] => rfl
  | x :: xs => by simp [rows, rows_length xs]
theorem rows_drop (l : List Int) : ∀ i, (rows l).drop i = rows (l.drop i) := by
  induction l with
  | nil => intro i; simp [rows]
  | cons x xs ih =>
    intro i
    cases i with
    | zero => rfl
    | succ i => simp [rows, ih]
def most (l : List Int) : Int := (rows l).foldr max 0

/-- One round of the choice: the chosen places so far. -/
def sel1 (l : List Int) (m : Int) (out : List Nat) (i : Nat) : List Nat :=
  if (out.length : Int) < m ∧ (rows l).getD i 0 = m - out.length ∧ (out = [] ∨ l.getD (out.getLastD 0) 0 < l.getD i 0) then out ++ [i] else out
def sel (l : List Int) (n : Nat) : List Nat := (List.range n).foldl (sel1 l (most l)) []
def lis (l : List Int) : List Nat := if l.length > 256 then [] else sel l l.length
theorem sel_succ (l : List Int) (n : Nat) : sel l (n + 1) = sel1 l (most l) (sel l n) n := by
  simp [sel, List.range_succ]
theorem sel_lt (l : List Int) : ∀ n, ∀ i ∈ sel l n, i < n
  | 0, i, h => by simp [sel] at h
  | n + 1, i, h => by
    rw [sel_succ] at h
    unfold sel1 at h
    split at h
    · rcases List.mem_append.1 h with h | h
      · have := sel_lt l n i h; omega
      · simp at h; omega
    · have := sel_lt l n i h; omega

theorem fold_ge (x : Int) : ∀ (ps : List (Int × Int)) (a : Int), a ≤ ps.foldl (upd1 x) a
  | [], a => by simp
  | p :: ps, a => by
    simp only [List.foldl_cons]
    have h1 := fold_ge x ps (upd1 x a p)
    have h2 : a ≤ upd1 x a p := by unfold upd1; split <;> omega
    omega
theorem fold_mem (x : Int) : ∀ (ps : List (Int × Int)) (a : Int) (p : Int × Int), p ∈ ps → x < p.1 → p.2 + 1 ≤ ps.foldl (upd1 x) a
  | q :: ps, a, p, hp, hx => by
    simp only [List.foldl_cons]
    rcases List.mem_cons.1 hp with rfl | hp
    · have h1 := fold_ge x ps (upd1 x a p)
      have h2 : p.2 + 1 ≤ upd1 x a p := by unfold upd1; rw [if_pos hx]; omega
      omega
    · exact fold_mem x ps _ p hp hx
/-- The fold's value is 1, or is reached at a member. -/
theorem fold_reach (x : Int) : ∀ (ps : List (Int × Int)) (a : Int), ps.foldl (upd1 x) a = a ∨ ∃ p ∈ ps, x < p.1 ∧ ps.foldl (upd1 x) a = p.2 + 1
  | [], a => .inl rfl
  | q :: ps, a => by
    simp only [List.foldl_cons]
    rcases fold_reach x ps (upd1 x a q) with h | ⟨p, hp, h1, h2⟩
    · unfold upd1 at h ⊢
      by_cases hx : x < q.1
      · rw [if_pos hx] at h ⊢
        by_cases hm : a ≤ q.2 + 1
        · have : max a (q.2 + 1) = q.2 + 1 := by omega
          rw [this] at h ⊢
          exact .inr ⟨q, by simp, hx, h⟩
        · have : max a (q.2 + 1) = a := by omega
          rw [this] at h ⊢
          exact .inl h
      · rw [if_neg hx] at h ⊢
        exact .inl h
    · exact .inr ⟨p, List.mem_cons_of_mem _ hp, h1, h2⟩
theorem rows_pos : ∀ (l : List Int), ∀ r ∈ rows l, 1 ≤ r
  | [], r, h => by simp [rows] at h
  | x :: xs, r, h => by
    simp only [rows] at h
    rcases List.mem_cons.1 h with rfl | h
    · exact fold_ge x _ 1
    · exact rows_pos xs r h
theorem foldr_ge : ∀ (l : List Int), ∀ r ∈ l, r ≤ l.foldr max 0
  | x :: xs, r, h => by
    simp only [List.foldr_cons]
    rcases List.mem_cons.1 h with rfl | h
    · omega
    · have := foldr_ge xs r h; omega
theorem foldr_reach : ∀ (l : List Int), l.foldr max 0 = 0 ∨ l.foldr max 0 ∈ l
  | [] => .inl rfl
  | x :: xs => by
    simp only [List.foldr_cons]
    rcases foldr_reach xs with h | h
    · rw [h]
      by_cases hx : x ≤ 0
      · left; omega
      · right; have : max x 0 = x := by omega
        rw [this]; simp
    · by_cases hx : x ≤ xs.foldr max 0
      · right; have : max x (xs.foldr max 0) = xs.foldr max 0 := by omega
        rw [this]; exact List.mem_cons_of_mem _ h
      · right; have : max x (xs.foldr max 0) = x := by omega
        rw [this]; simp

/-- At a place: the row's value is at least one more than that of any later, greater place. -/
theorem rows_step (l : List Int) (i j : Nat) (hij : i < j) (hj : j < l.length) (h : l[i]'(by omega) < l[j]) : (rows l).getD j 0 + 1 ≤ (rows l).getD i 0 := by
  induction l generalizing i j with
  | nil => simp at hj
  | cons x xs ih =>
    cases i with
    | zero =>
      cases j with
      | zero => omega
      | succ j =>
        simp only [List.length_cons] at hj
        simp only [rows, List.getD_cons_succ, List.getD_cons_zero]
        simp only [List.getElem_cons_zero, List.getElem_cons_succ] at h
        have hl := rows_length xs
        have hmem : (xs[j], (rows xs)[j]'(by omega)) ∈ xs.zip (rows xs) := by
          have : (xs.zip (rows xs))[j]'(by simp; omega) = (xs[j], (rows xs)[j]'(by omega)) := by simp
          rw [← this]; exact List.getElem_mem _
        have := fold_mem x _ 1 _ hmem h
        simp only at this
        rw [List.getD_eq_getElem?_getD, List.getElem?_eq_getElem (by omega)]
        simpa using this
    | succ i =>
      cases j with
      | zero => omega
      | succ j =>
        simp only [rows, List.getD_cons_succ]
        simp only [List.getElem_cons_succ] at h
        exact ih i j (by omega) (by simpa using hj) h
/-- A value above 1 is reached by a later, greater place. -/
theorem rows_next (l : List Int) (i : Nat) (hi : i < l.length) (h : 1 < (rows l).getD i 0) : ∃ j, i < j ∧ ∃ hj : j < l.length, l[i] < l[j] ∧ (rows l).getD j 0 + 1 = (rows l).getD i 0 := by
  induction l generalizing i with
  | nil => simp at hi
  | cons x xs ih =>
    cases i with
    | zero =>
      simp only [rows, List.getD_cons_zero] at h ⊢
      rcases fold_reach x (xs.zip (rows xs)) 1 with h1 | ⟨p, hp, h1, h2⟩
      · omega
      · obtain ⟨j, hj, rfl⟩ := List.getElem_of_mem hp
        simp only [List.length_zip] at hj
        have hl := rows_length xs
        refine ⟨j + 1, by omega, by simp; omega, ?_, ?_⟩
        · simpa using h1
        · rw [h2]
          simp only [List.getD_cons_succ]
          rw [List.getD_eq_getElem?_getD, List.getElem?_eq_getElem (by omega)]
          simp
    | succ i =>
      simp only [rows, List.getD_cons_succ] at h ⊢
      obtain ⟨j, h1, h2, h3, h4⟩ := ih i (by simpa using hi) h
      exact ⟨j + 1, by omega, by simpa using h2, by simpa using h3, by simpa using h4⟩
end Go.Proofs.Ytophkniaaifmiaa.Lis
namespace Go.Proofs.Ytophkniaaifmiaa.Lis
theorem rows_at (l : List Int) (j : Nat) (hj : j < l.length) :
    rows (l.drop j) = (((l.drop (j + 1)).zip (rows (l.drop (j + 1)))).foldl (upd1 l[j]) 1) :: rows (l.drop (j + 1)) := by
  rw [List.drop_eq_getElem_cons hj]; rfl
/-- The inner loop's value after k rounds. -/
def inner (l : List Int) (j k : Nat) : Int := (((l.drop (j + 1)).zip (rows (l.drop (j + 1)))).take k).foldl (upd1 (l.getD j 0)) 1
theorem inner_zero (l : List Int) (j : Nat) : inner l j 0 = 1 := rfl
theorem inner_succ (l : List Int) (j k : Nat) (hk : j + 1 + k < l.length) (cs : List Int) (hcl : cs.length = l.length) (hcd : cs.drop (j + 1) = rows (l.drop (j + 1))) :
    inner l j (k + 1) = upd1 (l[j]'(by omega)) (inner l j k) (l[j + 1 + k], cs[j + 1 + k]'(by omega)) := by
  unfold inner
  have hlen : ((l.drop (j + 1)).zip (rows (l.drop (j + 1)))).length = l.length - (j + 1) := by simp [rows_length]
  rw [List.take_succ_eq_append_getElem (by rw [hlen]; omega), List.foldl_append]
  simp only [List.foldl_cons, List.foldl_nil]
  have h1 : l.getD j 0 = l[j]'(by omega) := by rw [List.getD_eq_getElem?_getD, List.getElem?_eq_getElem (by omega)]; rfl
  rw [h1]
  congr 1
  simp only [List.getElem_zip, List.getElem_drop, ← hcd]
theorem inner_all (l : List Int) (j : Nat) (hj : j < l.length) : rows (l.drop j) = inner l j (l.length - (j + 1)) :: rows (l.drop (j + 1)) := by
  rw [rows_at l j hj]
  unfold inner
  rw [List.take_of_length_le (by simp [rows_length])]
  rw [List.getD_eq_getElem?_getD, List.getElem?_eq_getElem hj]; rfl
theorem rows_le : ∀ (l : List Int), ∀ r ∈ rows l, r ≤ l.length
  | [], r, h => by simp [rows] at h
  | x :: xs, r, h => by
    simp only [rows] at h
    have ih := rows_le xs
    have key : ∀ (ps : List (Int × Int)) (a : Int), a ≤ xs.length + 1 → (∀ p ∈ ps, p.2 ≤ xs.length) → ps.foldl (upd1 x) a ≤ xs.length + 1 := by
      intro ps
      induction ps with
      | nil => intro a ha _; simpa using ha
      | cons p ps ihp =>
        intro a ha hp
        simp only [List.foldl_cons]
        refine ihp _ ?_ (fun q hq => hp q (List.mem_cons_of_mem _ hq))
        have := hp p (by simp)
        unfold upd1; split <;> omega
    rcases List.mem_cons.1 h with rfl | h
    · have := key (xs.zip (rows xs)) 1 (by omega) (fun p hp => ih _ (List.of_mem_zip hp).2)
      simpa using this
    · have := ih r h
      simp; omega
theorem rows_get_le (l : List Int) (j : Nat) (cs : List Int) (hcl : cs.length = l.length) (n : Nat) (hcd : cs.drop n = rows (l.drop n)) (hn : n ≤ j) (hj : j < l.length) : 1 ≤ cs[j]'(by omega) ∧ cs[j]'(by omega) ≤ l.length := by
  have hmem : cs[j]'(by omega) ∈ rows (l.drop n) := by
    rw [← hcd]
    have : (cs.drop n)[j - n]'(by simp; omega) = cs[j]'(by omega) := by simp only [List.getElem_drop]; congr 1; omega
    rw [← this]; exact List.getElem_mem _
  have h1 := rows_pos _ _ hmem
  have h2 := rows_le _ _ hmem
  simp only [List.length_drop] at h2
  omega
end Go.Proofs.Ytophkniaaifmiaa.Lis
namespace Go.Proofs.Ytophkniaaifmiaa.Lis
theorem inner_le (l : List Int) (j k : Nat) (hj : j < l.length) : inner l j k ≤ l.length := by
  have key : ∀ (n : Nat) (x : Int) (ps : List (Int × Int)) (a : Int), a ≤ n + 1 → (∀ p ∈ ps, p.2 ≤ n) → ps.foldl (upd1 x) a ≤ n + 1 := by
    intro n x ps
    induction ps with
    | nil => intro a ha _; simpa using ha
    | cons p ps ihp =>
      intro a ha hp
      simp only [List.foldl_cons]
      refine ihp _ ?_ (fun q hq => hp q (List.mem_cons_of_mem _ hq))
      have := hp p (by simp)
      unfold upd1; split <;> omega
  have := key (l.drop (j + 1)).length (l.getD j 0) (((l.drop (j + 1)).zip (rows (l.drop (j + 1)))).take k) 1 (by omega)
    (fun p hp => rows_le _ _ (List.of_mem_zip (List.mem_of_mem_take hp)).2)
  unfold inner
  simp only [List.length_drop] at this
  omega
end Go.Proofs.Ytophkniaaifmiaa.Lis
namespace Go.Proofs.Ytophkniaaifmiaa.Lis
theorem most_bd (l : List Int) : 0 ≤ most l ∧ most l ≤ l.length := by
  unfold most
  rcases foldr_reach (rows l) with h | h
  · rw [h]; omega
  · have h1 := rows_pos l _ h
    have h2 := rows_le l _ h
    omega
theorem sel_len (l : List Int) : ∀ n, (sel l n).length ≤ n
  | 0 => by simp [sel]
  | n + 1 => by
    rw [sel_succ]
    have := sel_len l n
    unfold sel1; split
    · simp; omega
    · omega
end Go.Proofs.Ytophkniaaifmiaa.Lis
