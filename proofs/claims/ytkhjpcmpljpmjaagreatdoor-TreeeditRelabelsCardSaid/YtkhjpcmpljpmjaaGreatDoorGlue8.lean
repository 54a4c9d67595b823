/-
  The reading of strings, lists of words and small numbers. No condition.
-/
import Derived.Test.YtkhjpcmpljpmjaaGreatDoorGlue
set_option linter.unusedSimpArgs false
set_option linter.unusedVariables false
namespace Go.Proofs.YtkhjpcmpljpmjaaGreatDoor.Glue
open Go.ChangeShapes Go.WideShapes Go.ChangeAt Go.RowKit Abs Facts Tr
set_option maxRecDepth 100000
section
variable {H : Type} {enc : TypeId × Value → H} {W : World} {base : Nat} {r : Reach} {b0 : Nat} {spare : Nat → Bool} {held : Bool} {v : Value} {d : DataW H} {p : List MemPlace}
theorem rd_str (hv : Value.okWide Tryz.prog W r b0 9 v) (h : DataW.Trod enc Tryz.prog W base spare held 9 v d p) : ∃ s : ByteArray, s.size ≤ maxLen ∧ rel (readS W) (.str s) v := by
  obtain ⟨n, rfl⟩ := okWide_string Tryz.underlying9 hv
  obtain ⟨m, d', ht, hr⟩ := one_arg closedS (by decide) isAggT9 rfl h
  obtain ⟨s, he, h1⟩ := typed_str Tryz.underlying9 ht
  cases he
  exact ⟨s, h1, hr⟩
end
end Go.Proofs.YtkhjpcmpljpmjaaGreatDoor.Glue
