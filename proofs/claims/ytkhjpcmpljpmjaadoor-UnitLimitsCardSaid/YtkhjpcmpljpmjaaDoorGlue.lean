/-
  The reading of the arguments of this chapter's laws. No condition.
-/
import Derived.Test.YtkhjpcmpljpmjaaDoorLaid
import Derived.Test.YtkhjpcmpljpmjaaDoorTree
import Derived.Test.YtkhjpcmpljpmjaaDoorFew
import Derived.Carry
import Derived.WideShapes
set_option linter.unusedSimpArgs false
set_option linter.unusedVariables false
namespace Go.Proofs.YtkhjpcmpljpmjaaDoor.Glue
open Go.ChangeShapes Go.WideShapes Go.ChangeAt Go.RowKit Abs Facts Tr
theorem ownK : ownKnob Tryd.prog.godebug = none := by kernel_rfl
theorem laidOutK : laidOutB Tryd.prog = true := by kernel_rfl
def S : List TypeId := [4, 3, 9, 23, 35, 37, 24, 27, 25]
set_option maxRecDepth 100000
theorem closedS : closedB Tryd.prog S = true := by decide +kernel
section
variable {H : Type} {enc : TypeId × Value → H} {W : World} {base : Nat} {r : Reach} {b0 : Nat} {spare : Nat → Bool} {held : Bool} {v : Value} {d : DataW H} {p : List MemPlace}
theorem rd_int (hv : Value.okWide Tryd.prog W r b0 3 v) (h : DataW.Trod enc Tryd.prog W base spare held 3 v d p) : ∃ i : Int, (-9223372036854775808 ≤ i ∧ i ≤ 9223372036854775807) ∧ rel (readS W) (.int .i64 i) v := by
  obtain ⟨n, rfl⟩ := okWide_int Tryd.underlying3 hv
  obtain ⟨m, d', ht, hr⟩ := one_arg closedS (by decide) isAggT3 rfl h
  obtain ⟨i, he, h1⟩ := typed_int Tryd.underlying3 ht
  cases he
  exact ⟨i, h1, hr⟩
end
end Go.Proofs.YtkhjpcmpljpmjaaDoor.Glue
