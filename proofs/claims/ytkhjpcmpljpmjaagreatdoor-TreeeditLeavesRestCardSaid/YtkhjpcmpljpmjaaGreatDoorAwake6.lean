/-
 What Few says; the example of the chapter; the contract of Above. No condition but lengths.
-/
import Derived.Test.YtkhjpcmpljpmjaaGreatDoorStrip
set_option linter.unusedSimpArgs false
set_option linter.unusedVariables false
namespace Go.Proofs.YtkhjpcmpljpmjaaGreatDoor
open Abs Facts Tr
attribute [local irreducible] awp
namespace Abs
end Abs
namespace Tr
theorem loopS_mono (deep most : Int) : ∀ (l : List T), (∀ k ∈ l, ∀ (d m : Int), 0 ≤ m → 1 ≤ sizeR k d m) → ∀ n : Int, n ≤ loopS deep most (l.map sizeR) n
 | [], _, n => by simp [loopS]
 | k :: l, h, n => by
  simp only [List.map_cons, loopS]
  split
  ·have h1 := h k (by simp) (deep + 1) (most - n) (by omega)
   have h2 := loopS_mono deep most l (fun q hq => h q (List.mem_cons_of_mem _ hq)) (n + sizeR k (deep + 1) (most - n))
   omega
  ·omega
theorem loopS_count (deep most : Int) : ∀ (l : List T), (∀ k ∈ l, ∀ (m : Int), 0 ≤ m → sizeR k (deep + 1) m ≤ m → (cntT k : Int) = sizeR k (deep + 1) m ∧ deep + 1 + depT k ≤ 20) → ∀ n : Int, loopS deep most (l.map sizeR) n ≤ most →
  ((l.flatMap nodesT).length : Int) + n = loopS deep most (l.map sizeR) n ∧ ∀ k ∈ l, deep + 1 + depT k ≤ 20
 | [], _, n, _ => by simp [loopS]
 | k :: l, h, n, hn => by
  simp only [List.map_cons, loopS] at hn ⊢
  split at hn
  ·rename_i hle
   rw [if_pos hle]
   have hm := loopS_mono deep most l (fun q _ d m hm => (sizeR_bounds q d m hm).1) (n + sizeR k (deep + 1) (most - n))
   obtain ⟨h1, h2⟩ := h k (by simp) (most - n) (by omega) (by omega)
   obtain ⟨h3, h4⟩ := loopS_count deep most l (fun q hq => h q (List.mem_cons_of_mem _ hq)) _ hn
   refine ⟨?_, fun q hq => ?_⟩
   ·rw [List.flatMap_cons, List.length_append]
    have : (nodesT k).length = cntT k := rfl
    omega
   ·rcases List.mem_cons.1 hq with rfl | hq
    ·exact h2
    ·exact h4 q hq
  ·omega
theorem depF_bound (l : List T) (d : Int) (b : Int) (hb : d ≤ b) (h : ∀ k ∈ l, d + 1 + depT k ≤ b) : ∀ a : Nat, d + a ≤ b → d + ((l.map depT).foldl (fun d x => max d (1 + x)) a : Nat) ≤ b := by
 induction l with
 | nil => intro a ha; simpa using ha
 | cons k l ih =>
  intro a ha
  rw [List.map_cons, List.foldl_cons]
  have := h k (by simp)
  exact ih (fun q hq => h q (List.mem_cons_of_mem _ hq)) _ (by omega)
theorem sizeR_count : ∀ t : T, ∀ (deep most : Int), 0 ≤ most → sizeR t deep most ≤ most → (cntT t : Int) = sizeR t deep most ∧ deep + depT t ≤ 20 := by
 refine ind1 fun t ih deep most hm h => ?_
 rw [sizeR_eq] at h ⊢
 split at h
 ·omega
 ·rename_i hd
  rw [if_neg hd]
  obtain ⟨h1, h2⟩ := loopS_count deep most t.kids (fun k hk m hm h => ih k hk (deep + 1) m hm h) 1 h
  refine ⟨?_, ?_⟩
  ·rw [cntT_eq]; omega
  ·rw [depT_eq]
   exact depF_bound t.kids deep 20 (by omega) h2 0 (by omega)
theorem kids_cnt (t : T) : t.kids.length ≤ cntT t := by
 rw [cntT_eq]
 have : ∀ l : List T, l.length ≤ (l.flatMap nodesT).length := by
  intro l
  induction l with
  | nil => simp
  | cons k l ih =>
   rw [List.flatMap_cons, List.length_append, List.length_cons]
   have := cnt_pos k
   unfold cntT at this
   omega
 have := this t.kids
 omega
theorem short_iff (l : List Wd) : shortB l = true ↔ (∀ w ∈ l, w.text.size ≤ 100) ∧ l.length ≤ 300 := by
 unfold shortB
 simp only [Bool.and_eq_true, List.all_eq_true, decide_eq_true_eq]
theorem words_sz : ∀ t : T, wordsB t = true → cntT t ≤ 1000000 → szB t = true := by
 refine ind1 fun t ih h hc => ?_
 rw [wordsB_eq] at h
 simp only [Bool.and_eq_true, decide_eq_true_eq, List.all_eq_true, short_iff] at h
 obtain ⟨h1, ⟨h2, h3⟩, ⟨h4, h5⟩, h6⟩ := h
 rw [sz_iff]
 have hk := kids_cnt t
 refine ⟨by omega, by omega, fun w hw => ?_, by omega, fun w hw => ?_, by omega, fun k hk => ih k hk (h6 k hk) ?_⟩
 ·have := h2 w hw; omega
 ·have := h4 w hw; omega
 ·have := cnt_kid hk; omega
theorem few_sz {t : T} {most : Int} (h0 : 0 ≤ most) (h1 : most ≤ 1000) (h : fewB t most = true) : szB t = true ∧ (cntT t : Int) ≤ most ∧ depT t ≤ 20 := by
 unfold fewB at h
 simp only [Bool.and_eq_true, decide_eq_true_eq] at h
 obtain ⟨g1, g2⟩ := sizeR_count t 0 most h0 h.1
 exact ⟨words_sz t h.2 (by omega), by omega, by omega⟩
end Tr
end Go.Proofs.YtkhjpcmpljpmjaaGreatDoor
