/-
  The reference's Reach and Must: what they find. Plain Lean.
-/
import Derived.Test.YtjibdljdkgedcaaOrders
import Derived.Test.YtjibdljdkgedcaaFarLaw
namespace Go.Proofs.Ytjibdljdkgedcaa
open Abs
namespace Topo
def pairB (l : List Pr) (a b : Int) : Bool := l.any fun p => decide (p.1 = a) && decide (p.2 = b)
theorem pairB_iff (l : List Pr) (a b : Nat) : pairB l a b = true ↔ adj l a b := by
  unfold pairB adj
  rw [List.any_eq_true]
  constructor
  · rintro ⟨p, hp, h⟩
    have h : p.1 = a ∧ p.2 = b := by simpa using h
    exact ⟨p, hp, h⟩
  · rintro ⟨p, hp, h⟩; exact ⟨p, hp, by simpa using h⟩
def addB (l : List Pr) (a : Nat) : Nat → List Nat → List Nat
  | 0, out => out
  | b + 1, out => if (pairB l a b && !inL (addB l a b out) b) = true then addB l a b out ++ [b] else addB l a b out
def addA (l : List Pr) (n src : Nat) : Nat → List Nat → List Nat
  | 0, out => out
  | a + 1, out => if a ≠ src ∧ inL (addA l n src a out) a = false then addA l n src a out else addB l a n (addA l n src a out)
def addS (l : List Pr) (n src : Nat) : Nat → List Nat → List Nat
  | 0, out => out
  | s + 1, out => addA l n src n (addS l n src s out)
def reachR (n src : Nat) (l : List Pr) : List Nat := addS l n src n []
theorem addB_mono (l : List Pr) (a : Nat) (out : List Nat) : ∀ b x, x ∈ out → x ∈ addB l a b out
  | 0, _, h => h
  | b + 1, x, h => by
    have := addB_mono l a out b x h
    simp only [addB]; split
    · exact List.mem_append_left _ this
    · exact this
theorem addA_mono (l : List Pr) (n src : Nat) (out : List Nat) : ∀ a x, x ∈ out → x ∈ addA l n src a out
  | 0, _, h => h
  | a + 1, x, h => by
    have := addA_mono l n src out a x h
    simp only [addA]; split
    · exact this
    · exact addB_mono l a _ n x this
theorem addB_sound {l : List Pr} {a : Nat} {out : List Nat} {q : Nat → Prop} (h : ∀ x ∈ out, q x) (ha : ∀ b, adj l a b → q b) : ∀ b, ∀ x ∈ addB l a b out, q x
  | 0 => h
  | b + 1 => by
    intro x hx
    simp only [addB] at hx
    split at hx
    · rename_i hc
      rcases List.mem_append.1 hx with hx | hx
      · exact addB_sound h ha b x hx
      · simp at hx; subst hx
        rw [Bool.and_eq_true] at hc
        exact ha x ((pairB_iff l a x).1 hc.1)
    · exact addB_sound h ha b x hx
theorem addA_sound {l : List Pr} {n src : Nat} {out : List Nat} (h : ∀ x ∈ out, ∃ m, Path l (m + 1) src x) : ∀ a, ∀ x ∈ addA l n src a out, ∃ m, Path l (m + 1) src x
  | 0 => h
  | a + 1 => by
    have ih := addA_sound (n := n) h a
    intro x hx
    simp only [addA] at hx
    split at hx
    · exact ih x hx
    · rename_i hc
      refine addB_sound ih (fun b hab => ?_) n x hx
      by_cases e : a = src
      · subst e; exact ⟨0, path_one hab⟩
      · have : inL (addA l n src a out) a = true := by
          cases hi : inL (addA l n src a out) a with
          | true => rfl
          | false => exact absurd ⟨e, hi⟩ hc
        obtain ⟨m, hm⟩ := ih a ((inL_mem _ _).1 this)
        exact ⟨m + 1, path_add hm (path_one hab)⟩
theorem addS_sound {l : List Pr} {n src : Nat} : ∀ s, ∀ x ∈ addS l n src s [], ∃ m, Path l (m + 1) src x
  | 0 => fun _ h => by cases h
  | s + 1 => addA_sound (addS_sound s) n
theorem addB_complete {l : List Pr} {a : Nat} (out : List Nat) : ∀ k b, b < k → adj l a b → b ∈ addB l a k out
  | 0, b, h, _ => by omega
  | k + 1, b, h, hab => by
    simp only [addB]
    by_cases e : b = k
    · subst e
      split
      · exact List.mem_append_right _ (by simp)
      · rename_i hc
        rw [(pairB_iff l a b).2 hab, Bool.true_and] at hc
        exact (inL_mem _ _).1 (by simpa using hc)
    · have := addB_complete out k b (by omega) hab
      split
      · exact List.mem_append_left _ this
      · exact this
theorem addA_complete {l : List Pr} {n src : Nat} (hl : okL n l) (out : List Nat) : ∀ k a, a < k → (a = src ∨ a ∈ out) → ∀ b, adj l a b → b ∈ addA l n src k out
  | 0, a, h, _, _, _ => by omega
  | k + 1, a, h, ho, b, hab => by
    simp only [addA]
    by_cases e : a = k
    · subst e
      rw [if_neg]
      · exact addB_complete _ n b (adj_lt hl hab).2 hab
      · rintro ⟨h1, h2⟩
        rcases ho with ho | ho
        · exact h1 ho
        · rw [(inL_mem _ _).2 (addA_mono l n src out a a ho)] at h2; cases h2
    · have := addA_complete hl out k a (by omega) ho b hab
      split
      · exact this
      · exact addB_mono l k _ n b this
theorem path_last {l : List Pr} : ∀ {m a b : Nat}, Path l (m + 1) a b → ∃ c, Path l m a c ∧ adj l c b
  | 0, a, b, ⟨c, hc, h⟩ => by
    have h : c = b := h
    subst h; exact ⟨a, rfl, hc⟩
  | m + 1, a, b, ⟨c, hc, h⟩ => by
    obtain ⟨d, h1, h2⟩ := path_last h
    exact ⟨d, ⟨c, hc, h1⟩, h2⟩
theorem addS_complete {l : List Pr} {n src : Nat} (hl : okL n l) : ∀ s m b, m < s → Path l (m + 1) src b → b ∈ addS l n src s []
  | 0, m, b, h, _ => by omega
  | s + 1, m, b, h, hp => by
    simp only [addS]
    obtain ⟨c, h1, h2⟩ := path_last hp
    refine addA_complete hl _ n c (adj_lt hl h2).1 ?_ b h2
    cases m with
    | zero => have h1 : src = c := h1
              exact .inl h1.symm
    | succ m => exact .inr (addS_complete hl s m c (by omega) h1)
theorem reach_iff {n : Nat} {l : List Pr} (hl : okL n l) (a b : Nat) : inL (reachR n a l) b = true ↔ ∃ m, Path l (m + 1) a b := by
  rw [inL_mem]
  constructor
  · exact addS_sound n b
  · rintro ⟨m, h⟩
    obtain ⟨k, h1, h2, _, h4⟩ := path_short hl (m + 1) (by omega) h
    obtain ⟨j, rfl⟩ : ∃ j, k = j + 1 := ⟨k - 1, by omega⟩
    exact addS_complete hl n j b (by omega) h4
def rowP (f : Nat → Bool) (a : Nat) : Nat → List Pr
  | 0 => []
  | b + 1 => if f b = true then rowP f a b ++ [((a : Int), (b : Int))] else rowP f a b
def allP (f : Nat → Nat → Bool) (n : Nat) : Nat → List Pr
  | 0 => []
  | a + 1 => allP f n a ++ rowP (f a) a n
theorem rowP_congr {f g : Nat → Bool} {a : Nat} : ∀ {k : Nat}, (∀ b, b < k → f b = g b) → rowP f a k = rowP g a k
  | 0, _ => rfl
  | k + 1, h => by simp only [rowP]; rw [rowP_congr fun b hb => h b (by omega), h k (by omega)]
theorem allP_congr {f g : Nat → Nat → Bool} {n : Nat} : ∀ {k : Nat}, (∀ a b, a < k → b < n → f a b = g a b) → allP f n k = allP g n k
  | 0, _ => rfl
  | k + 1, h => by simp only [allP]; rw [allP_congr fun a b ha hb => h a b (by omega) hb, rowP_congr fun b hb => h k b (by omega) hb]
theorem rowP_mem {f : Nat → Bool} {a : Nat} {p : Pr} : ∀ {k : Nat}, p ∈ rowP f a k ↔ ∃ b, b < k ∧ f b = true ∧ p = ((a : Int), (b : Int))
  | 0 => by simp [rowP]
  | k + 1 => by
    simp only [rowP]
    have ih := rowP_mem (f := f) (a := a) (p := p) (k := k)
    split
    · rename_i hf
      rw [List.mem_append, ih, List.mem_singleton]
      constructor
      · rintro (⟨b, h1, h2⟩ | h)
        · exact ⟨b, by omega, h2⟩
        · exact ⟨k, by omega, hf, h⟩
      · rintro ⟨b, h1, h2, h3⟩
        by_cases e : b = k
        · subst e; exact .inr h3
        · exact .inl ⟨b, by omega, h2, h3⟩
    · rename_i hf
      rw [ih]
      constructor
      · rintro ⟨b, h1, h2⟩; exact ⟨b, by omega, h2⟩
      · rintro ⟨b, h1, h2, h3⟩
        by_cases e : b = k
        · subst e; exact absurd h2 hf
        · exact ⟨b, by omega, h2, h3⟩
theorem allP_mem {f : Nat → Nat → Bool} {n : Nat} {p : Pr} : ∀ {k : Nat}, p ∈ allP f n k ↔ ∃ a b, a < k ∧ b < n ∧ f a b = true ∧ p = ((a : Int), (b : Int))
  | 0 => by simp [allP]
  | k + 1 => by
    simp only [allP]
    rw [List.mem_append, allP_mem, rowP_mem]
    constructor
    · rintro (⟨a, b, h1, h2⟩ | ⟨b, h⟩)
      · exact ⟨a, b, by omega, h2⟩
      · exact ⟨k, b, by omega, h⟩
    · rintro ⟨a, b, h1, h2⟩
      by_cases e : a = k
      · subst e; exact .inr ⟨b, h2⟩
      · exact .inl ⟨a, b, by omega, h2⟩
theorem rowP_length (f : Nat → Bool) (a : Nat) : ∀ k, (rowP f a k).length ≤ k
  | 0 => Nat.le_refl _
  | k + 1 => by
    have := rowP_length f a k
    simp only [rowP]; split <;> simp <;> omega
theorem allP_length (f : Nat → Nat → Bool) (n : Nat) : ∀ k, (allP f n k).length ≤ k * n
  | 0 => by simp [allP]
  | k + 1 => by
    have := allP_length f n k
    have := rowP_length (f k) k n
    simp only [allP, List.length_append, Nat.succ_mul]; omega
def mustR (n : Nat) (l : List Pr) : List Pr := allP (fun a b => inL (reachR n a l) b) n n
def impliedF (n : Nat) (d : List Int) : List Pr := allP (fun a b => decide (at2 d a b < 16)) n n
theorem implied_must {n : Nat} (hn : n ≤ 16) {l : List Pr} (hl : okL n l) (hc : Acyc l) : impliedF n (farL (edges l) n) = mustR n l := by
  refine allP_congr fun a b ha hb => ?_
  rw [Bool.eq_iff_iff, reach_iff hl, decide_eq_true_iff]
  exact far_iff hn hl hc ha hb
theorem implied_mem {n : Nat} (hn : n ≤ 16) {l : List Pr} (hl : okL n l) (hc : Acyc l) {a b : Nat} (ha : a < n) (hb : b < n) : ((a : Int), (b : Int)) ∈ impliedF n (farL (edges l) n) ↔ ∃ m, Path l (m + 1) a b := by
  unfold impliedF
  rw [allP_mem]
  constructor
  · rintro ⟨x, y, hx, hy, h1, h2⟩
    simp only [Prod.mk.injEq] at h2
    have e1 : a = x := by omega
    have e2 : b = y := by omega
    subst e1; subst e2
    exact (far_iff hn hl hc ha hb).1 (of_decide_eq_true h1)
  · intro h
    exact ⟨a, b, ha, hb, decide_eq_true ((far_iff hn hl hc ha hb).2 h), rfl⟩
end Topo
end Go.Proofs.Ytjibdljdkgedcaa
