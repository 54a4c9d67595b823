/-
  Count counts the orders. Plain Lean.
-/
import Derived.Test.YtjibdljdkgedcaaOrders
import Derived.Test.YtjibdljdkgedcaaCount
namespace Go.Proofs.Ytjibdljdkgedcaa
open Abs
namespace Topo
def tot (f : Nat → Int) : Nat → Int
  | 0 => 0
  | k + 1 => tot f k + f k
theorem tot_congr {f g : Nat → Int} : ∀ {k : Nat}, (∀ i, i < k → f i = g i) → tot f k = tot g k
  | 0, _ => rfl
  | k + 1, h => by simp only [tot]; rw [tot_congr fun i hi => h i (by omega), h k (by omega)]
theorem tot_upd {f g : Nat → Int} {i : Nat} (hfg : ∀ j, j ≠ i → g j = f j) : ∀ {k : Nat}, i < k → tot g k = tot f k + (g i - f i)
  | 0, h => by omega
  | k + 1, h => by
    simp only [tot]
    by_cases e : i = k
    · subst e
      rw [tot_congr (f := g) (g := f) fun j hj => hfg j (by omega)]; omega
    · rw [tot_upd hfg (by omega : i < k), hfg k (by omega)]; omega
theorem wrap_mod (n : Int) : (IntKind.i64.wrap n - n) % 18446744073709551616 = 0 := by
  rw [IntKind.wrap_i64]; omega
/-- The completions of a set. -/
def complB (bh : List Nat) (n : Nat) : Nat → Nat → Nat
  | 0, _ => 0
  | f + 1, t => if t = 2 ^ n - 1 then 1 else sumN n fun p => if (!t.testBit p && subU (bh.getD p 0) t) = true then complB bh n f (orU t (2 ^ p)) else 0
theorem orU_gt {t p : Nat} (h : t.testBit p = false) (ht : t < 2 ^ 16) (hp : p < 16) : t < orU t (2 ^ p) := by
  have hlt : t ||| 2 ^ p < 2 ^ 16 := Nat.or_lt_two_pow ht (Nat.pow_lt_pow_right (by decide) hp)
  unfold orU
  rw [Nat.mod_eq_of_lt (Nat.lt_of_lt_of_le hlt (by decide))]
  have h1 : t ≤ t ||| 2 ^ p := Nat.left_le_or
  have h2 : t ≠ t ||| 2 ^ p := by
    intro e
    have := congrArg (fun x => x.testBit p) e
    simp only [Nat.testBit_or, Nat.testBit_two_pow_self, Bool.or_true] at this
    rw [h] at this; cases this
  omega
theorem complB_fuel (bh : List Nat) {n : Nat} (hn : n ≤ 16) : ∀ (f f' t : Nat), t < 2 ^ n → 2 ^ n - t ≤ f → 2 ^ n - t ≤ f' → complB bh n f t = complB bh n f' t
  | 0, _, t, ht, h, _ => by omega
  | f + 1, 0, t, ht, _, h => by omega
  | f + 1, f' + 1, t, ht, h, h' => by
    simp only [complB]
    split
    · rfl
    · refine sumN_congr fun p hp => ?_
      split
      · rename_i hf
        rw [Bool.and_eq_true, Bool.not_eq_true'] at hf
        have h16 : 2 ^ n ≤ 2 ^ 16 := Nat.pow_le_pow_right (by decide) hn
        have h1 := orU_gt hf.1 (by omega) (by omega : p < 16)
        have h2 := orU_lt_pow ht hp
        exact complB_fuel bh hn f f' _ h2 (by omega) (by omega)
      · rfl
def cB (bh : List Nat) (n t : Nat) : Nat := complB bh n (2 ^ n) t
theorem cB_step (bh : List Nat) {n : Nat} (hn : n ≤ 16) {t : Nat} (ht : t < 2 ^ n - 1) :
    cB bh n t = sumN n fun p => if (!t.testBit p && subU (bh.getD p 0) t) = true then cB bh n (orU t (2 ^ p)) else 0 := by
  unfold cB
  have hpos : 0 < 2 ^ n := Nat.pow_pos (by decide)
  obtain ⟨f, hf⟩ : ∃ f, 2 ^ n = f + 1 := ⟨2 ^ n - 1, by omega⟩
  rw [complB_fuel bh hn (2 ^ n) (f + 1) t (by omega) (by omega) (by omega)]
  simp only [complB]
  rw [if_neg (by omega)]
  refine sumN_congr fun p hp => ?_
  split
  · rename_i hfr
    rw [Bool.and_eq_true, Bool.not_eq_true'] at hfr
    have h16 : 2 ^ n ≤ 2 ^ 16 := Nat.pow_le_pow_right (by decide) hn
    have h1 := orU_gt hfr.1 (by omega) (by omega : p < 16)
    have h2 := orU_lt_pow (show t < 2 ^ n by omega) hp
    exact complB_fuel bh hn f (2 ^ n) _ h2 (by omega) (by omega)
  · rfl
theorem cB_full (bh : List Nat) (n : Nat) : cB bh n (2 ^ n - 1) = 1 := by
  unfold cB
  have hpos : 0 < 2 ^ n := Nat.pow_pos (by decide)
  obtain ⟨f, hf⟩ : ∃ f, 2 ^ n = f + 1 := ⟨2 ^ n - 1, by omega⟩
  rw [show complB bh n (2 ^ n) = complB bh n (f + 1) by rw [hf]]
  simp only [complB]
  rw [if_pos trivial]
/-- What the entries from s on are worth. -/
def worth (bh : List Nat) (n s : Nat) (c : List Int) : Int := tot (fun t => if s ≤ t then c.getD t 0 * (cB bh n t : Nat) else 0) (2 ^ n)
theorem getD_set {α : Type} (c : List α) (i j : Nat) (v x : α) (hi : i < c.length) : (c.set i v).getD j x = if j = i then v else c.getD j x := by
  rw [List.getD_eq_getElem?_getD, List.getElem?_set]
  by_cases h : j = i
  · subst h; rw [if_pos rfl, if_pos hi, if_pos rfl]; rfl
  · rw [if_neg (Ne.symm h), if_neg h, ← List.getD_eq_getElem?_getD]
theorem worth_set (bh : List Nat) {n s i : Nat} {c : List Int} (hc : c.length = 2 ^ n) (hi : i < 2 ^ n) (hs : s ≤ i) (v : Int) :
    worth bh n s (c.set i v) = worth bh n s c + (v - c.getD i 0) * (cB bh n i : Nat) := by
  unfold worth
  rw [tot_upd (i := i) (f := fun t => if s ≤ t then c.getD t 0 * (cB bh n t : Nat) else 0) (fun j hj => by
    try simp only
    rw [getD_set c i j v 0 (by omega), if_neg hj]) hi]
  try simp only
  rw [if_pos hs, if_pos hs, getD_set c i i v 0 (by omega), if_pos rfl, Int.sub_mul]
theorem dpP_at (bh : List Nat) {n s : Nat} (hn : n ≤ 16) (hs : s < 2 ^ n) {c : List Int} (hc : c.length = 2 ^ n) : ∀ p, p ≤ n → (dpP bh s p c).getD s 0 = c.getD s 0
  | 0, _ => rfl
  | p + 1, hp => by
    simp only [dpP]
    split
    · rename_i hf
      rw [Bool.and_eq_true, Bool.not_eq_true'] at hf
      have h16 : 2 ^ n ≤ 2 ^ 16 := Nat.pow_le_pow_right (by decide) hn
      have h1 := orU_gt hf.1 (by omega) (by omega : p < 16)
      have h2 := orU_lt_pow hs (show p < n by omega)
      rw [getD_set _ _ _ _ _ (by rw [dpP_length]; omega), if_neg (by omega)]
      exact dpP_at bh hn hs hc p (by omega)
    · exact dpP_at bh hn hs hc p (by omega)
def M64 : Int := 18446744073709551616
theorem dpP_worth (bh : List Nat) {n s : Nat} (hn : n ≤ 16) (hs : s < 2 ^ n) {c : List Int} (hc : c.length = 2 ^ n) : ∀ p, p ≤ n →
    (worth bh n (s + 1) (dpP bh s p c) - (worth bh n (s + 1) c + c.getD s 0 * (sumN p fun q => if (!s.testBit q && subU (bh.getD q 0) s) = true then cB bh n (orU s (2 ^ q)) else 0 : Nat))) % M64 = 0
  | 0, _ => by simp [dpP, sumN]
  | p + 1, hp => by
    have ih := dpP_worth bh hn hs hc p (by omega)
    simp only [dpP, sumN]
    split
    · rename_i hf
      have hf' := hf
      rw [Bool.and_eq_true, Bool.not_eq_true'] at hf'
      have h16 : 2 ^ n ≤ 2 ^ 16 := Nat.pow_le_pow_right (by decide) hn
      have h1 := orU_gt hf'.1 (by omega) (by omega : p < 16)
      have h2 := orU_lt_pow hs (show p < n by omega)
      rw [worth_set bh (by rw [dpP_length]; omega) h2 (by omega), dpP_at bh hn hs hc p (by omega)]
      have hw := wrap_mod ((dpP bh s p c).getD (orU s (2 ^ p)) 0 + c.getD s 0)
      generalize (dpP bh s p c).getD (orU s (2 ^ p)) 0 = x at *
      generalize IntKind.i64.wrap (x + c.getD s 0) = w at *
      generalize cB bh n (orU s (2 ^ p)) = k at *
      generalize worth bh n (s + 1) (dpP bh s p c) = u at *
      generalize (sumN p fun q => if (!s.testBit q && subU (bh.getD q 0) s) = true then cB bh n (orU s (2 ^ q)) else 0) = y at *
      generalize worth bh n (s + 1) c = u0 at *
      generalize c.getD s 0 = z at *
      have hd : ((w - (x + z)) * (k : Int)) % M64 = 0 := by
        have : M64 ∣ (w - (x + z)) * (k : Int) := Int.dvd_mul_of_dvd_left (Int.dvd_of_emod_eq_zero hw)
        exact Int.emod_eq_zero_of_dvd this
      have e : u + (w - x) * (k : Int) - (u0 + z * ((y + k : Nat) : Int)) = (u - (u0 + z * (y : Int))) + (w - (x + z)) * (k : Int) := by
        rw [Int.natCast_add, Int.mul_add, Int.sub_mul, Int.sub_mul, Int.add_mul]; omega
      rw [e]
      exact Int.emod_eq_zero_of_dvd (Int.dvd_add (Int.dvd_of_emod_eq_zero ih) (Int.dvd_of_emod_eq_zero hd))
    · rw [Nat.add_zero]; exact ih
theorem worth_next (bh : List Nat) {n s : Nat} (hs : s < 2 ^ n) (c : List Int) : worth bh n s c = worth bh n (s + 1) c + c.getD s 0 * (cB bh n s : Nat) := by
  unfold worth
  rw [tot_upd (i := s) (f := fun t => if s + 1 ≤ t then c.getD t 0 * (cB bh n t : Nat) else 0) (g := fun t => if s ≤ t then c.getD t 0 * (cB bh n t : Nat) else 0) (fun j hj => by
    try simp only
    by_cases h : s ≤ j
    · rw [if_pos h, if_pos (by omega)]
    · rw [if_neg h, if_neg (by omega)]) hs]
  try simp only
  rw [if_pos (Nat.le_refl _), if_neg (by omega)]; omega
theorem dpS_worth (bh : List Nat) {n : Nat} (hn : n ≤ 16) {c : List Int} (hc : c.length = 2 ^ n) : ∀ s, s ≤ 2 ^ n - 1 → (worth bh n s (dpS bh n s c) - worth bh n 0 c) % M64 = 0
  | 0, _ => by simp only [dpS, Int.sub_self]; rfl
  | s + 1, hs => by
    have ih := dpS_worth bh hn hc s (by omega)
    have hl : (dpS bh n s c).length = 2 ^ n := by rw [dpS_length, hc]
    have h1 := dpP_worth bh hn (show s < 2 ^ n by omega) hl n (Nat.le_refl _)
    rw [← cB_step bh hn (by omega : s < 2 ^ n - 1), ← worth_next bh (by omega)] at h1
    simp only [dpS]
    have := Int.emod_eq_zero_of_dvd (Int.dvd_add (Int.dvd_of_emod_eq_zero h1) (Int.dvd_of_emod_eq_zero ih))
    rwa [show worth bh n (s + 1) (dpP bh s n (dpS bh n s c)) - worth bh n s (dpS bh n s c) + (worth bh n s (dpS bh n s c) - worth bh n 0 c) = worth bh n (s + 1) (dpP bh s n (dpS bh n s c)) - worth bh n 0 c by omega] at this
theorem worth_top (bh : List Nat) {n : Nat} (c : List Int) : worth bh n (2 ^ n - 1) c = c.getD (2 ^ n - 1) 0 := by
  have hpos : 0 < 2 ^ n := Nat.pow_pos (by decide)
  rw [worth_next bh (by omega), cB_full]
  have : worth bh n (2 ^ n - 1 + 1) c = 0 := by
    unfold worth
    rw [tot_congr (g := fun _ => 0) (fun i hi => if_neg (by omega))]
    have : ∀ k, tot (fun _ => 0) k = 0 := by
      intro k
      induction k with
      | zero => rfl
      | succ k ih => simp only [tot, ih]; rfl
    exact this _
  rw [this]; simp
theorem worth_init (bh : List Nat) {n : Nat} : worth bh n 0 ((List.replicate (2 ^ n) 0).set 0 1) = (cB bh n 0 : Nat) := by
  have hpos : 0 < 2 ^ n := Nat.pow_pos (by decide)
  rw [worth_set bh (by simp) hpos (Nat.le_refl _)]
  have h0 : ∀ t, (List.replicate (2 ^ n) (0 : Int)).getD t 0 = 0 := by
    intro t
    rw [List.getD_eq_getElem?_getD, List.getElem?_replicate]; split <;> rfl
  have : worth bh n 0 (List.replicate (2 ^ n) 0) = 0 := by
    unfold worth
    rw [tot_congr (g := fun _ => 0) (fun i hi => by simp only [h0]; simp)]
    have : ∀ k, tot (fun _ => 0) k = 0 := by
      intro k
      induction k with
      | zero => rfl
      | succ k ih => simp only [tot, ih]; rfl
    exact this _
  rw [this, h0]; simp
theorem dpP_full (bh : List Nat) {n : Nat} (c : List Int) : ∀ p, p ≤ n → dpP bh (2 ^ n - 1) p c = c
  | 0, _ => rfl
  | p + 1, hp => by
    simp only [dpP]
    rw [if_neg (by rw [Nat.testBit_two_pow_sub_one, decide_eq_true (by omega)]; simp)]
    exact dpP_full bh c p (by omega)
/-- The last entry, but for multiples of 2^64. -/
theorem cnt_mod (g : List Nat) {n : Nat} (hn : n ≤ 16) : ((cnt g n).getD (2 ^ n - 1) 0 - (cB (behindN g n n) n 0 : Nat)) % M64 = 0 := by
  have hpos : 0 < 2 ^ n := Nat.pow_pos (by decide)
  have h := dpS_worth (behindN g n n) hn (c := (List.replicate (2 ^ n) 0).set 0 1) (by simp) (2 ^ n - 1) (Nat.le_refl _)
  rw [worth_top, worth_init] at h
  have e : cnt g n = dpS (behindN g n n) n (2 ^ n - 1) ((List.replicate (2 ^ n) 0).set 0 1) := by
    unfold cnt
    have : ∀ k, k + 1 = 2 ^ n → dpS (behindN g n n) n (2 ^ n) ((List.replicate (2 ^ n) 0).set 0 1) = dpS (behindN g n n) n k ((List.replicate (2 ^ n) 0).set 0 1) := by
      intro k hk
      rw [← hk]
      simp only [dpS]
      rw [show k = 2 ^ n - 1 by omega]
      rw [show 2 ^ n - 1 + 1 = 2 ^ n by omega]
      exact dpP_full _ _ n (Nat.le_refl _)
    exact this (2 ^ n - 1) (by omega)
  rw [e]; exact h
theorem behindN_get (g : List Nat) (n : Nat) : ∀ (p : Nat), p ≤ 16 → ∀ q, q < p → (behindN g n p).getD q 0 = aheadN g q n
  | 0, _, q, h => by omega
  | p + 1, hp, q, h => by
    simp only [behindN]
    rw [getD_set _ _ _ _ _ (by rw [behindN_length]; omega)]
    by_cases e : q = p
    · subst e; rw [if_pos rfl]
    · rw [if_neg e]; exact behindN_get g n p (by omega) q (by omega)
theorem bits_full {n t : Nat} (ht : t < 2 ^ n) (h : ∀ i, i < n → t.testBit i = true) : t = 2 ^ n - 1 := by
  apply Nat.eq_of_testBit_eq
  intro i
  rw [Nat.testBit_two_pow_sub_one]
  by_cases hi : i < n
  · rw [h i hi, decide_eq_true hi]
  · rw [decide_eq_false hi]
    exact Nat.testBit_lt_two_pow (Nat.lt_of_lt_of_le ht (Nat.pow_le_pow_right (by decide) (by omega)))
/-- Sets and rows: the same completions. -/
theorem cB_compl {n : Nat} (hn : n ≤ 16) {l : List Pr} (hl : okL n l) : ∀ (k : Nat) (row : List Nat) (t : Nat), t < 2 ^ n → bitsOf t row → row.Nodup → (∀ x ∈ row, x < n) → row.length + k = n →
    cB (behindN (edges l) n n) n t = compl l n k row
  | 0, row, t, ht, hb, hd, hr, hk => by
    have hall : ∀ x, x < n → x ∈ row := by
      intro x hx
      apply Classical.byContradiction
      intro hxr
      have := nodup_le n (x :: row) (List.nodup_cons.2 ⟨hxr, hd⟩) (fun y hy => by
        rcases List.mem_cons.1 hy with rfl | hy
        · exact hx
        · exact hr y hy)
      simp at this; omega
    have := bits_full ht (fun i hi => by rw [hb i (by omega)]; simpa using hall i hi)
    rw [this, cB_full]; rfl
  | k + 1, row, t, ht, hb, hd, hr, hk => by
    have hne : t ≠ 2 ^ n - 1 := by
      intro e
      have := le_of_all n row (fun x hx => by
        have h := hb x (by omega)
        rw [e, Nat.testBit_two_pow_sub_one, decide_eq_true hx] at h
        simpa using h.symm)
      omega
    rw [cB_step _ hn (by omega)]
    simp only [compl]
    refine sumN_congr fun p hp => ?_
    have hf : (!t.testBit p && subU ((behindN (edges l) n n).getD p 0) t) = freeR row p l := by
      rw [behindN_get _ n n hn p hp, ← freeB_eq hn hl hb (show p < 16 by omega)]; rfl
    rw [hf]
    split
    · rename_i hfr
      have hpr := free_not hl hfr
      obtain ⟨h3, h4⟩ := beg_step hd hr hp hpr
      exact cB_compl hn hl k _ _ (orU_lt_pow ht hp) (bitsOf_step hb p) h3 h4 (by simp; omega)
    · rfl
theorem cnt_range (g : List Nat) {n : Nat} (hn : n ≤ 16) : -9223372036854775808 ≤ (cnt g n).getD (2 ^ n - 1) 0 ∧ (cnt g n).getD (2 ^ n - 1) 0 < 9223372036854775808 := by
  have key : ∀ (c : List Int), (∀ i, -9223372036854775808 ≤ c.getD i 0 ∧ c.getD i 0 < 9223372036854775808) → ∀ (bh : List Nat) (s p : Nat), ∀ i, -9223372036854775808 ≤ (dpP bh s p c).getD i 0 ∧ (dpP bh s p c).getD i 0 < 9223372036854775808 := by
    intro c hc bh s p
    induction p with
    | zero => exact hc
    | succ p ih =>
      intro i
      simp only [dpP]
      split
      · rw [List.getD_eq_getElem?_getD, List.getElem?_set]
        split
        · split
          · simp only [Option.getD_some]; rw [IntKind.wrap_i64]; omega
          · simp only [Option.getD_none]; omega
        · rw [← List.getD_eq_getElem?_getD]; exact ih i
      · exact ih i
  have key2 : ∀ (c : List Int), (∀ i, -9223372036854775808 ≤ c.getD i 0 ∧ c.getD i 0 < 9223372036854775808) → ∀ (bh : List Nat) (s : Nat), ∀ i, -9223372036854775808 ≤ (dpS bh n s c).getD i 0 ∧ (dpS bh n s c).getD i 0 < 9223372036854775808 := by
    intro c hc bh s
    induction s with
    | zero => exact hc
    | succ s ih => exact key _ ih bh s n
  refine key2 _ (fun i => ?_) _ _ _
  rw [List.getD_eq_getElem?_getD, List.getElem?_set]
  split
  · split <;> simp
  · rw [List.getElem?_replicate]; split <;> simp
theorem fact_16 {k : Nat} (h : k ≤ 16) : fact k ≤ 20922789888000 := by
  have : ∀ k, k ≤ 16 → fact k ≤ 20922789888000 := by decide +kernel
  exact this k h
theorem cnt_compl {n : Nat} (hn : n ≤ 16) {l : List Pr} (hl : okL n l) : (cnt (edges l) n).getD (2 ^ n - 1) 0 = (compl l n n [] : Nat) := by
  have hpos : 0 < 2 ^ n := Nat.pow_pos (by decide)
  have h1 := cnt_mod (edges l) hn
  rw [cB_compl hn hl n [] 0 hpos (fun i _ => by simp) List.nodup_nil (fun _ h => by cases h) (by simp)] at h1
  have h2 := cnt_range (edges l) hn
  have h3 := compl_le hl n [] List.nodup_nil (fun _ h => by cases h) (by simp)
  have h4 := fact_16 hn
  unfold M64 at h1
  omega
end Topo
end Go.Proofs.Ytjibdljdkgedcaa
