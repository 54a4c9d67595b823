/-
  The reading of strings, lists of words and small numbers. No condition.
-/
import Derived.Test.YtkhjpcmpljpmjaaGreatDoorGlue
set_option linter.unusedSimpArgs false
set_option linter.unusedVariables false
namespace Go.Proofs.YtkhjpcmpljpmjaaGreatDoor.Glue
open Go.ChangeShapes Go.WideShapes Go.ChangeAt Go.RowKit Abs Facts Tr
set_option maxRecDepth 100000
theorem typed_wordQ {n : Nat} {ds : List D} (h : Typed Tryz.prog n 51 ds) : ∃ w : Wd, ds = cellsWd w ∧ w.text.size ≤ maxLen := by
  obtain ⟨m, rfl, h⟩ := typed_struct Tryz.underlying51 h
  obtain ⟨d1, r1, rfl, h1, d2, r2, rfl, h2, rfl⟩ := h
  obtain ⟨s, rfl, hs⟩ := typed_str Tryz.underlying9 h1
  obtain ⟨m', rfl, h3⟩ := typed_struct Tryz.underlying49 h2
  obtain ⟨e1, q1, rfl, g1, e2, q2, rfl, g2, e3, q3, rfl, g3, rfl⟩ := h3
  obtain ⟨i, rfl, _⟩ := typed_int Tryz.underlying3 g1
  obtain ⟨j, rfl, _⟩ := typed_int Tryz.underlying3 g2
  obtain ⟨k, rfl, _⟩ := typed_int Tryz.underlying3 g3
  exact ⟨⟨s, ⟨i, j, k⟩⟩, rfl, hs⟩
section
variable {H : Type} {enc : TypeId × Value → H} {W : World} {base : Nat} {r : Reach} {b0 : Nat} {spare : Nat → Bool} {held : Bool} {v : Value} {d : DataW H} {p : List MemPlace}
theorem rd_words (hv : Value.okWide Tryz.prog W r b0 24 v) (h : DataW.Trod enc Tryz.prog W base spare held 24 v d p) : ∃ l : List Wd, (l.length ≤ maxLen ∧ ∀ w ∈ l, w.text.size ≤ maxLen) ∧ rel (readS W) (encWs l) v := by
  obtain ⟨a, n, c, rfl⟩ := okWide_slice Tryz.underlying24 hv
  obtain ⟨m, d', ht, hr⟩ := one_arg closedS (by decide) isAggT24 rfl h
  obtain ⟨m, parts, rfl, hl, hp, he⟩ := typed_slice Tryz.underlying24 ht
  obtain ⟨l, rfl, hq⟩ := list_of_parts (f := cellsWd) (q := fun w : Wd => w.text.size ≤ maxLen) (fun p hp => typed_wordQ hp) parts hp
  refine ⟨l, ⟨by simpa using hl, hq⟩, ?_⟩
  have : d' = encWs l := by
    simp only [List.cons.injEq, and_true] at he
    rw [he, isAggT51, sizeT51, List.map_map]; rfl
  rw [← this]; exact hr
end
end Go.Proofs.YtkhjpcmpljpmjaaGreatDoor.Glue
