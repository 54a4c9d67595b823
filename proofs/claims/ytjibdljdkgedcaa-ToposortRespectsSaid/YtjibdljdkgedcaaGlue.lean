/-
  The reading of the arguments of this chapter's laws. No condition.
-/
import Derived.Test.YtjibdljdkgedcaaRows
import Derived.Test.YtjibdljdkgedcaaFacts
import Derived.Test.YtjibdljdkgedcaaRead
import Derived.Test.YtjibdljdkgedcaaTopo
import Derived.Carry
import Derived.WideShapes
set_option linter.unusedSimpArgs false
set_option linter.unusedVariables false
namespace Go.Proofs.Ytjibdljdkgedcaa.Glue
open Go.ChangeShapes Go.WideShapes Go.ChangeAt Go.RowKit Abs Facts Topo
theorem ownK : ownKnob Try.prog.godebug = none := by kernel_rfl
theorem laidOutK : laidOutB Try.prog = true := by kernel_rfl
def S : List TypeId := [4, 3, 24, 22, 35]
theorem closedS : closedB Try.prog S = true := by decide +kernel
section
variable {H : Type} {enc : TypeId × Value → H} {W : World} {base : Nat} {r : Reach} {b0 : Nat} {spare : Nat → Bool} {held : Bool} {v : Value} {d : DataW H} {p : List MemPlace}
theorem rd_ints (hv : Value.okWide Try.prog W r b0 24 v) (h : DataW.Trod enc Try.prog W base spare held 24 v d p) : ∃ l : List Int, (l.length ≤ maxLen ∧ ∀ i ∈ l, -9223372036854775808 ≤ i ∧ i ≤ 9223372036854775807) ∧ rel (readS W) (encI l) v := by
  obtain ⟨a, n, c, rfl⟩ := okWide_slice Try.underlying24 hv
  obtain ⟨m, d', ht, hr⟩ := one_arg closedS (by decide) isAggT24 rfl h
  obtain ⟨l, he, h1, h2⟩ := typed_ints Try.underlying24 Try.underlying3 sizeT3 ht
  cases he
  exact ⟨l, ⟨h1, h2⟩, hr⟩
theorem rd_int (hv : Value.okWide Try.prog W r b0 3 v) (h : DataW.Trod enc Try.prog W base spare held 3 v d p) : ∃ i : Int, (-9223372036854775808 ≤ i ∧ i ≤ 9223372036854775807) ∧ rel (readS W) (.int .i64 i) v := by
  obtain ⟨n, rfl⟩ := okWide_int Try.underlying3 hv
  obtain ⟨m, d', ht, hr⟩ := one_arg closedS (by decide) isAggT3 rfl h
  obtain ⟨i, he, h1⟩ := typed_int Try.underlying3 ht
  cases he
  exact ⟨i, h1, hr⟩
theorem typed_pair {n : Nat} {ds : List D} (h : Typed Try.prog n 35 ds) : ∃ p : Pr, ds = cellsP2 p ∧ (-9223372036854775808 ≤ p.1 ∧ p.1 ≤ 9223372036854775807) := by
  obtain ⟨m, rfl, h⟩ := typed_struct Try.underlying35 h
  obtain ⟨d1, r1, rfl, h1, d2, r2, rfl, h2, rfl⟩ := h
  obtain ⟨i, rfl, hi⟩ := typed_int Try.underlying3 h1
  obtain ⟨j, rfl, hj⟩ := typed_int Try.underlying3 h2
  exact ⟨(i, j), rfl, hi⟩
theorem rd_pairs (hv : Value.okWide Try.prog W r b0 22 v) (h : DataW.Trod enc Try.prog W base spare held 22 v d p) : ∃ l : List Pr, l.length ≤ maxLen ∧ rel (readS W) (encPs l) v := by
  obtain ⟨a, n, c, rfl⟩ := okWide_slice Try.underlying22 hv
  obtain ⟨m, d', ht, hr⟩ := one_arg closedS (by decide) isAggT22 rfl h
  obtain ⟨m, parts, rfl, hl, hp, he⟩ := typed_slice Try.underlying22 ht
  obtain ⟨l, rfl, hq⟩ := list_of_parts (f := cellsP2) (q := fun e : Pr => -9223372036854775808 ≤ e.1 ∧ e.1 ≤ 9223372036854775807) (fun p hp => typed_pair hp) parts hp
  refine ⟨l, by simpa using hl, ?_⟩
  have : d' = encPs l := by
    simp only [List.cons.injEq, and_true] at he
    rw [he, isAggT35, sizeT35, List.map_map]; rfl
  rw [this] at hr; exact hr
end
end Go.Proofs.Ytjibdljdkgedcaa.Glue
