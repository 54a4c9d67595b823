/-
  Orders that respect the pairs: when there is one; how many there are. Plain Lean.
-/
import Derived.Test.YtjibdljdkgedcaaPaths
namespace Go.Proofs.Ytjibdljdkgedcaa
open Abs
namespace Topo
theorem inL_mem (row : List Nat) (k : Nat) : inL row k = true ↔ k ∈ row := by
  unfold inL
  rw [List.any_eq_true]
  constructor
  · rintro ⟨y, hy, h⟩
    have h : (y : Int) = k := by simpa using h
    have : y = k := by omega
    exact this ▸ hy
  · intro h; exact ⟨k, h, by simp⟩
theorem freeR_iff {n : Nat} {l : List Pr} (hl : okL n l) (row : List Nat) (k : Nat) : freeR row k l = true ↔ k ∉ row ∧ ∀ a, adj l a k → a ∈ row := by
  unfold freeR
  rw [Bool.and_eq_true, List.all_eq_true, Bool.not_eq_true', ← Bool.not_eq_true, inL_mem]
  refine and_congr_right fun _ => ⟨?_, ?_⟩
  · rintro h a ⟨p, hp, h1, h2⟩
    have := h p hp
    rw [decide_eq_true h2, h1] at this
    have : inL row a = true := by simpa using this
    exact (inL_mem row a).1 this
  · intro h p hp
    have hb := (okP_iff n p).1 (hl p hp)
    by_cases hk : p.2 = (k : Int)
    · have := h p.1.toNat ⟨p, hp, by omega, hk⟩
      have := (inL_mem row p.1.toNat).2 this
      rw [show ((p.1.toNat : Nat) : Int) = p.1 by omega] at this
      rw [this]; simp
    · rw [decide_eq_false hk]; rfl
/-- A beginning of an order. -/
structure Beg (n : Nat) (l : List Pr) (row : List Nat) : Prop where
  nodup : row.Nodup
  lt : ∀ x ∈ row, x < n
  before : ∀ i a, (hi : i < row.length) → adj l a row[i] → ∃ j, ∃ hj : j < row.length, j < i ∧ row[j] = a
theorem beg_nil (n : Nat) (l : List Pr) : Beg n l [] := ⟨List.nodup_nil, fun _ h => (by cases h), fun _ _ hi => (by simp at hi)⟩
theorem beg_snoc {n : Nat} {l : List Pr} (hl : okL n l) {row : List Nat} (h : Beg n l row) {k : Nat} (hk : k < n) (hf : freeR row k l = true) : Beg n l (row ++ [k]) := by
  obtain ⟨h1, h2⟩ := (freeR_iff hl row k).1 hf
  refine ⟨?_, ?_, ?_⟩
  · rw [List.nodup_append]
    refine ⟨h.nodup, by simp, fun a ha b hb => ?_⟩
    simp at hb; subst hb
    intro e; subst e; exact h1 ha
  · intro x hx
    rcases List.mem_append.1 hx with hx | hx
    · exact h.lt x hx
    · simp at hx; omega
  · intro i a hi ha
    have hi' : i < row.length + 1 := by simpa using hi
    by_cases hir : i < row.length
    · rw [List.getElem_append_left hir] at ha
      obtain ⟨j, hj, hji, he⟩ := h.before i a hir ha
      exact ⟨j, by simp; omega, hji, by rw [List.getElem_append_left hj]; exact he⟩
    · have hie : i = row.length := by omega
      subst hie
      have ha : adj l a k := by simpa using ha
      obtain ⟨j, hj, he⟩ := List.mem_iff_getElem.1 (h2 a ha)
      exact ⟨j, by simp; omega, hj, by rw [List.getElem_append_left hj]; exact he⟩
theorem beg_len {n : Nat} {l : List Pr} {row : List Nat} (h : Beg n l row) : row.length ≤ n := nodup_le n row h.nodup h.lt
/-- A whole order: no cycle. -/
theorem beg_acyc {n : Nat} {l : List Pr} (hl : okL n l) {row : List Nat} (h : Beg n l row) (hn : row.length = n) : Acyc l := by
  have hall : ∀ x, x < n → x ∈ row := by
    intro x hx
    apply Classical.byContradiction
    intro hxr
    have := nodup_le n (x :: row) (List.nodup_cons.2 ⟨hxr, h.nodup⟩) (fun y hy => by
      rcases List.mem_cons.1 hy with rfl | hy
      · exact hx
      · exact h.lt y hy)
    simp at this; omega
  have step : ∀ {a b : Nat}, adj l a b → row.idxOf a < row.idxOf b := by
    intro a b hab
    have hb := List.idxOf_lt_length_of_mem (hall b (adj_lt hl hab).2)
    obtain ⟨j, hj, hji, he⟩ := h.before (row.idxOf b) a hb (by rw [List.getElem_idxOf]; exact hab)
    have : row.idxOf a = j := by
      rw [← he]; exact h.nodup.idxOf_getElem j hj
    omega
  have path : ∀ (m : Nat) (a b : Nat), Path l (m + 1) a b → row.idxOf a < row.idxOf b := by
    intro m
    induction m with
    | zero =>
      rintro a b ⟨c, hc, he⟩
      have he : c = b := he
      subst he; exact step hc
    | succ m ih =>
      rintro a b ⟨c, hc, hp⟩
      have := step hc
      have := ih c b hp
      omega
  intro m a hp
  have := path m a a hp
  omega
/-- Nothing is free: there is a cycle. -/
theorem stuck {n : Nat} {l : List Pr} (hl : okL n l) {row : List Nat} (hr : row.length < n) (h : ∀ k, k < n → freeR row k l = false) : ¬ Acyc l := by
  obtain ⟨x, hx, hxr⟩ : ∃ x, x < n ∧ x ∉ row := by
    apply Classical.byContradiction
    intro hc
    have := le_of_all n row (fun x hx => Classical.byContradiction fun hn => hc ⟨x, hx, hn⟩)
    omega
  have next : ∀ y : { y : Nat // y < n ∧ y ∉ row }, ∃ z : { y : Nat // y < n ∧ y ∉ row }, adj l z.1 y.1 := by
    rintro ⟨y, hy, hyr⟩
    apply Classical.byContradiction
    intro hc
    have : freeR row y l = true := (freeR_iff hl row y).2 ⟨hyr, fun a ha => Classical.byContradiction fun hn => hc ⟨⟨a, (adj_lt hl ha).1, hn⟩, ha⟩⟩
    rw [h y hy] at this; cases this
  obtain ⟨f, hf⟩ := Classical.axiomOfChoice next
  let v : Nat → { y : Nat // y < n ∧ y ∉ row } := fun i => Nat.rec ⟨x, hx, hxr⟩ (fun _ y => f y) i
  have hv : ∀ i, adj l (v (i + 1)).1 (v i).1 := fun i => hf (v i)
  obtain ⟨i, j, hij, _, he⟩ := collide (f := fun i => (v i).1) (n := n) (k := n + 1) (by omega) (fun i _ => (v i).2.1)
  have back : ∀ k i, Path l k (v (i + k)).1 (v i).1 := by
    intro k
    induction k with
    | zero => intro i; rfl
    | succ k ih => intro i; exact ⟨(v (i + k)).1, hv (i + k), ih i⟩
  have p := back (j - i) i
  have he : (v i).1 = (v j).1 := he
  rw [show i + (j - i) = j by omega, he] at p
  intro ha
  refine ha (j - i - 1) (v j).1 ?_
  rw [show j - i - 1 + 1 = j - i by omega]; exact p
theorem orderF_some {n : Nat} {l : List Pr} (hl : okL n l) : ∀ (k : Nat) (row r : List Nat), Beg n l row → orderF l n k row = some r → Beg n l r ∧ r.length = row.length + k
  | 0, row, r, h, he => by
    simp only [orderF, Option.some.injEq] at he
    subst he; exact ⟨h, rfl⟩
  | k + 1, row, r, h, he => by
    simp only [orderF] at he
    split at he
    · cases he
    · rename_i p hp
      obtain ⟨h1, h2, _⟩ := List.find?_range_eq_some.1 hp
      obtain ⟨h3, h4⟩ := orderF_some hl k _ r (beg_snoc hl h (by simpa using h2) h1) he
      exact ⟨h3, by simp at h4; omega⟩
theorem orderF_none {n : Nat} {l : List Pr} (hl : okL n l) : ∀ (k : Nat) (row : List Nat), row.length + k = n → Beg n l row → orderF l n k row = none → ¬ Acyc l
  | 0, row, _, _, he => by simp [orderF] at he
  | k + 1, row, hk, h, he => by
    simp only [orderF] at he
    split at he
    · rename_i hp
      rw [List.find?_eq_none] at hp
      exact stuck hl (row := row) (by omega) (fun q hq => by simpa using hp q (List.mem_range.2 hq))
    · rename_i p hp
      obtain ⟨h1, h2, _⟩ := List.find?_range_eq_some.1 hp
      exact orderF_none hl k _ (by simp; omega) (beg_snoc hl h (by simpa using h2) h1) he
theorem order_iff {n : Nat} {l : List Pr} (hl : okL n l) : (orderF l n n []).isSome = true ↔ Acyc l := by
  cases h : orderF l n n [] with
  | none => simp only [Option.isSome_none, Bool.false_eq_true, false_iff]; exact orderF_none hl n [] (by simp) (beg_nil n l) h
  | some r =>
    simp only [Option.isSome_some, true_iff]
    obtain ⟨h1, h2⟩ := orderF_some hl n [] r (beg_nil n l) h
    exact beg_acyc hl h1 (by simpa using h2)
/-- How many orders begin so. -/
def sumN (n : Nat) (f : Nat → Nat) : Nat := match n with | 0 => 0 | k + 1 => sumN k f + f k
def compl (l : List Pr) (n : Nat) : Nat → List Nat → Nat
  | 0, _ => 1
  | k + 1, row => sumN n fun p => if freeR row p l = true then compl l n k (row ++ [p]) else 0
theorem sumN_congr {n : Nat} {f g : Nat → Nat} (h : ∀ i, i < n → f i = g i) : sumN n f = sumN n g := by
  induction n with
  | zero => rfl
  | succ n ih => simp only [sumN]; rw [ih (fun i hi => h i (by omega)), h n (by omega)]
theorem sumN_le {n : Nat} {f g : Nat → Nat} (h : ∀ i, i < n → f i ≤ g i) : sumN n f ≤ sumN n g := by
  induction n with
  | zero => exact Nat.le_refl _
  | succ n ih =>
    simp only [sumN]
    have := ih (fun i hi => h i (by omega))
    have := h n (by omega)
    omega
theorem sumN_mono {n k : Nat} (f : Nat → Nat) (h : k ≤ n) : sumN k f ≤ sumN n f := by
  induction n with
  | zero => rw [show k = 0 by omega]; exact Nat.le_refl _
  | succ n ih =>
    by_cases e : k = n + 1
    · subst e; exact Nat.le_refl _
    · have := ih (by omega)
      simp only [sumN]; omega
theorem sumN_add (n : Nat) (f g : Nat → Nat) : sumN n (fun i => f i + g i) = sumN n f + sumN n g := by
  induction n with
  | zero => rfl
  | succ n ih => simp only [sumN, ih]; omega
theorem sumN_ge {n i : Nat} (f : Nat → Nat) (h : i < n) : f i ≤ sumN n f := by
  induction n with
  | zero => omega
  | succ n ih =>
    simp only [sumN]
    by_cases e : i = n
    · subst e; omega
    · have := ih (by omega); omega
theorem sumN_pos {n : Nat} {f : Nat → Nat} (h : 0 < sumN n f) : ∃ i, i < n ∧ 0 < f i := by
  induction n with
  | zero => simp [sumN] at h
  | succ n ih =>
    simp only [sumN] at h
    by_cases hn : 0 < f n
    · exact ⟨n, by omega, hn⟩
    · obtain ⟨i, hi, hf⟩ := ih (by omega)
      exact ⟨i, by omega, hf⟩
theorem sumN_zero (n : Nat) : sumN n (fun _ => 0) = 0 := by
  induction n with
  | zero => rfl
  | succ n ih => simp only [sumN, ih]
theorem sumN_one {n : Nat} (f : Nat → Nat) {i : Nat} (hi : i < n) (h : ∀ j, j < n → j ≠ i → f j = 0) : sumN n f = f i := by
  induction n with
  | zero => omega
  | succ n ih =>
    simp only [sumN]
    by_cases e : i = n
    · subst e
      rw [sumN_congr (g := fun _ => 0) (fun j hj => h j (by omega) (by omega)), sumN_zero, Nat.zero_add]
    · rw [ih (by omega) (fun j hj hji => h j (by omega) hji), h n (by omega) (by omega), Nat.add_zero]
theorem sumN_mul (n c : Nat) (f : Nat → Bool) : sumN n (fun i => if f i = true then c else 0) = ((List.range n).filter f).length * c := by
  induction n with
  | zero => simp [sumN]
  | succ n ih =>
    simp only [sumN, ih, List.range_succ, List.filter_append, List.length_append, List.filter_cons, List.filter_nil]
    split
    · simp [Nat.add_mul]
    · simp
def fact : Nat → Nat
  | 0 => 1
  | n + 1 => (n + 1) * fact n
theorem beg_step {n : Nat} {row : List Nat} (hd : row.Nodup) (hr : ∀ x ∈ row, x < n) {p : Nat} (hp : p < n) (h : p ∉ row) : (row ++ [p]).Nodup ∧ ∀ x ∈ row ++ [p], x < n := by
  constructor
  · rw [List.nodup_append]
    refine ⟨hd, by simp, fun a ha b hb => ?_⟩
    simp at hb; subst hb
    intro e; subst e; exact h ha
  · intro x hx
    rcases List.mem_append.1 hx with hx | hx
    · exact hr x hx
    · simp at hx; omega
theorem free_not {n : Nat} {l : List Pr} (hl : okL n l) {row : List Nat} {p : Nat} (h : freeR row p l = true) : p ∉ row := ((freeR_iff hl row p).1 h).1
theorem compl_le {n : Nat} {l : List Pr} (hl : okL n l) : ∀ (k : Nat) (row : List Nat), row.Nodup → (∀ x ∈ row, x < n) → row.length + k = n → compl l n k row ≤ fact k
  | 0, _, _, _, _ => Nat.le_refl _
  | k + 1, row, hd, hr, hk => by
    simp only [compl]
    have h1 : ∀ p, p < n → (if freeR row p l = true then compl l n k (row ++ [p]) else 0) ≤ (if (!row.contains p) = true then fact k else 0) := by
      intro p hp
      split
      · rename_i hf
        have hpr := free_not hl hf
        rw [if_pos (by simpa using hpr)]
        obtain ⟨h2, h3⟩ := beg_step hd hr hp hpr
        exact compl_le hl k _ h2 h3 (by simp; omega)
      · exact Nat.zero_le _
    refine Nat.le_trans (sumN_le h1) ?_
    rw [sumN_mul]
    simp only [fact]
    refine Nat.mul_le_mul_right _ ?_
    have h4 := nodup_le n (row ++ (List.range n).filter fun p => !row.contains p) (by
      rw [List.nodup_append]
      refine ⟨hd, List.nodup_range.filter _, fun a ha b hb => ?_⟩
      have := (List.mem_filter.1 hb).2
      intro e; subst e
      simp at this; exact this ha) (fun x hx => by
        rcases List.mem_append.1 hx with hx | hx
        · exact hr x hx
        · exact List.mem_range.1 (List.mem_filter.1 hx).1)
    rw [List.length_append] at h4
    omega
theorem compl_pos {n : Nat} {l : List Pr} (hl : okL n l) : ∀ (k : Nat) (row : List Nat), row.length + k = n → Beg n l row → (0 < compl l n k row ↔ ∃ r, Beg n l (row ++ r) ∧ r.length = k)
  | 0, row, _, hb => by
    simp only [compl]
    exact ⟨fun _ => ⟨[], by simpa using hb, rfl⟩, fun _ => by decide⟩
  | k + 1, row, hk, hb => by
    simp only [compl]
    constructor
    · intro h
      obtain ⟨p, hp, hf⟩ := sumN_pos h
      split at hf
      · rename_i hfr
        obtain ⟨r, hr, hl'⟩ := (compl_pos hl k (row ++ [p]) (by simp; omega) (beg_snoc hl hb hp hfr)).1 hf
        exact ⟨p :: r, by simpa using hr, by simp [hl']⟩
      · omega
    · rintro ⟨r, hr, hl'⟩
      cases r with
      | nil => simp at hl'
      | cons p r =>
        have hp : p < n := hr.lt p (by simp)
        have hfr : freeR row p l = true := by
          refine (freeR_iff hl row p).2 ⟨?_, fun a ha => ?_⟩
          · have := hr.nodup
            rw [List.nodup_append] at this
            exact fun hm => this.2.2 p hm p (by simp) rfl
          · obtain ⟨j, hj, hji, he⟩ := hr.before row.length a (by simp) (by simpa using ha)
            rw [List.getElem_append_left hji] at he
            exact he ▸ List.getElem_mem _
        refine Nat.lt_of_lt_of_le ?_ (sumN_ge _ hp)
        rw [if_pos hfr]
        exact (compl_pos hl k (row ++ [p]) (by simp; omega) (beg_snoc hl hb hp hfr)).2 ⟨r, by simpa using hr, by simpa using hl'⟩
theorem compl_iff {n : Nat} {l : List Pr} (hl : okL n l) : 0 < compl l n n [] ↔ Acyc l := by
  rw [compl_pos hl n [] (by simp) (beg_nil n l)]
  constructor
  · rintro ⟨r, hr, hl'⟩
    exact beg_acyc hl hr (by simpa using hl')
  · intro h
    have := (order_iff hl).2 h
    obtain ⟨r, hr⟩ := Option.isSome_iff_exists.1 this
    obtain ⟨h1, h2⟩ := orderF_some hl n [] r (beg_nil n l) hr
    exact ⟨r, by simpa using h1, by simpa using h2⟩
/-- One more pair. -/
theorem adj_snoc (l : List Pr) (a b i j : Nat) : adj (l ++ [((a : Int), (b : Int))]) i j ↔ adj l i j ∨ (i = a ∧ j = b) := by
  constructor
  · rintro ⟨p, hp, h1, h2⟩
    rcases List.mem_append.1 hp with hp | hp
    · exact .inl ⟨p, hp, h1, h2⟩
    · simp at hp; subst hp
      simp only at h1 h2
      exact .inr ⟨by omega, by omega⟩
  · rintro (⟨p, hp, h1, h2⟩ | ⟨rfl, rfl⟩)
    · exact ⟨p, List.mem_append_left _ hp, h1, h2⟩
    · exact ⟨_, List.mem_append_right _ (List.mem_singleton.2 rfl), rfl, rfl⟩
theorem okL_snoc {n : Nat} {l : List Pr} (hl : okL n l) {a b : Nat} (ha : a < n) (hb : b < n) : okL n (l ++ [((a : Int), (b : Int))]) := by
  intro p hp
  rcases List.mem_append.1 hp with hp | hp
  · exact hl p hp
  · simp at hp; subst hp
    exact (okP_iff n _).2 ⟨by simp, by simp; omega, by simp, by simp; omega⟩
theorem free_snoc {n : Nat} {l : List Pr} (hl : okL n l) {a b : Nat} (ha : a < n) (hb : b < n) (row : List Nat) (k : Nat) :
    freeR row k (l ++ [((a : Int), (b : Int))]) = true ↔ freeR row k l = true ∧ (k = b → a ∈ row) := by
  rw [freeR_iff (okL_snoc hl ha hb), freeR_iff hl]
  constructor
  · rintro ⟨h1, h2⟩
    exact ⟨⟨h1, fun x hx => h2 x ((adj_snoc l a b x k).2 (.inl hx))⟩, fun e => h2 a ((adj_snoc l a b a k).2 (.inr ⟨rfl, e⟩))⟩
  · rintro ⟨⟨h1, h2⟩, h3⟩
    refine ⟨h1, fun x hx => ?_⟩
    rcases (adj_snoc l a b x k).1 hx with hx | ⟨rfl, e⟩
    · exact h2 x hx
    · exact h3 e
theorem compl_has {n : Nat} {l : List Pr} (hl : okL n l) {a b : Nat} (ha : a < n) (hb : b < n) : ∀ (k : Nat) (row : List Nat), a ∈ row → compl (l ++ [((a : Int), (b : Int))]) n k row = compl l n k row
  | 0, _, _ => rfl
  | k + 1, row, h => by
    simp only [compl]
    refine sumN_congr fun p _ => ?_
    rw [compl_has hl ha hb k (row ++ [p]) (by simp [h])]
    by_cases hf : freeR row p l = true
    · rw [if_pos hf, if_pos ((free_snoc hl ha hb row p).2 ⟨hf, fun _ => h⟩)]
    · rw [if_neg hf, if_neg (fun h2 => hf ((free_snoc hl ha hb row p).1 h2).1)]
/-- Every order has the one or the other first. -/
theorem compl_split {n : Nat} {l : List Pr} (hl : okL n l) {a b : Nat} (ha : a < n) (hb : b < n) (hab : a ≠ b) : ∀ (k : Nat) (row : List Nat), row.Nodup → (∀ x ∈ row, x < n) → row.length + k = n → a ∉ row → b ∉ row →
    compl l n k row = compl (l ++ [((a : Int), (b : Int))]) n k row + compl (l ++ [((b : Int), (a : Int))]) n k row
  | 0, row, hd, hr, hk, h, _ => by
    have := nodup_le n (a :: row) (List.nodup_cons.2 ⟨h, hd⟩) (fun y hy => by
      rcases List.mem_cons.1 hy with rfl | hy
      · exact ha
      · exact hr y hy)
    simp at this; omega
  | k + 1, row, hd, hr, hk, h1, h2 => by
    simp only [compl]
    rw [← sumN_add]
    refine sumN_congr fun p hp => ?_
    by_cases hf : freeR row p l = true
    · rw [if_pos hf]
      have hpr := free_not hl hf
      obtain ⟨h3, h4⟩ := beg_step hd hr hp hpr
      by_cases hpa : p = a
      · subst hpa
        rw [if_pos ((free_snoc hl ha hb row p).2 ⟨hf, fun e => absurd e hab⟩), if_neg (fun h' => h2 (((free_snoc hl hb ha row p).1 h').2 rfl)), compl_has hl ha hb k _ (by simp), Nat.add_zero]
      · by_cases hpb : p = b
        · subst hpb
          rw [if_neg (fun h' => h1 (((free_snoc hl ha hb row p).1 h').2 rfl)), if_pos ((free_snoc hl hb ha row p).2 ⟨hf, fun e => absurd e (Ne.symm hab)⟩), compl_has hl hb ha k _ (by simp), Nat.zero_add]
        · rw [if_pos ((free_snoc hl ha hb row p).2 ⟨hf, fun e => absurd e hpb⟩), if_pos ((free_snoc hl hb ha row p).2 ⟨hf, fun e => absurd e hpa⟩)]
          exact compl_split hl ha hb hab k _ h3 h4 (by simp; omega) (by simp [h1]; omega) (by simp [h2]; omega)
    · rw [if_neg hf, if_neg (fun h' => hf ((free_snoc hl ha hb row p).1 h').1), if_neg (fun h' => hf ((free_snoc hl hb ha row p).1 h').1)]
/-- A pair added to a graph without cycles closes one exactly where there is a path back. -/
theorem acyc_snoc {l : List Pr} (hc : Acyc l) {a b : Nat} : Acyc (l ++ [((a : Int), (b : Int))]) ↔ ¬ ∃ m, Path l m b a := by
  have mono : ∀ m x y, Path l m x y → Path (l ++ [((a : Int), (b : Int))]) m x y := by
    intro m
    induction m with
    | zero => intro x y h; exact h
    | succ m ih => rintro x y ⟨c, h1, h2⟩; exact ⟨c, (adj_snoc l a b x c).2 (.inl h1), ih c y h2⟩
  have split : ∀ m x y, Path (l ++ [((a : Int), (b : Int))]) m x y → Path l m x y ∨ ((∃ i, Path l i x a) ∧ ∃ j, Path l j b y) := by
    intro m
    induction m with
    | zero => intro x y h; exact .inl h
    | succ m ih =>
      rintro x y ⟨c, h1, h2⟩
      rcases (adj_snoc l a b x c).1 h1 with h1 | ⟨rfl, rfl⟩
      · rcases ih c y h2 with h | ⟨⟨i, hi⟩, hj⟩
        · exact .inl ⟨c, h1, h⟩
        · exact .inr ⟨⟨i + 1, c, h1, hi⟩, hj⟩
      · refine .inr ⟨⟨0, rfl⟩, ?_⟩
        rcases ih c y h2 with h | ⟨_, hj⟩
        · exact ⟨m, h⟩
        · exact hj
  constructor
  · rintro h ⟨m, hm⟩
    exact h m a ⟨b, (adj_snoc l a b a b).2 (.inr ⟨rfl, rfl⟩), mono m b a hm⟩
  · intro h m x hp
    rcases split _ x x hp with h1 | ⟨⟨i, hi⟩, ⟨j, hj⟩⟩
    · exact hc m x h1
    · exact h ⟨j + i, path_add hj hi⟩
end Topo
end Go.Proofs.Ytjibdljdkgedcaa
