/-
  The reading of the arguments of this chapter's laws. No condition.
-/
import Derived.Test.YtophkniaaifmiaaRows
import Derived.Test.YtophkniaaifmiaaFacts
import Derived.Test.YtophkniaaifmiaaRead
import Derived.Test.YtophkniaaifmiaaEd
import Derived.Carry
import Derived.WideShapes
namespace Go.Proofs.Ytophkniaaifmiaa.Glue
open Go.ChangeShapes Go.WideShapes Go.ChangeAt Go.RowKit Abs Facts
theorem ownK : ownKnob Try.prog.godebug = none := by kernel_rfl
theorem laidOutK : laidOutB Try.prog = true := by kernel_rfl
def S : List TypeId := [4, 3, 9, 22, 27, 36, 38]
theorem closedS : closedB Try.prog S = true := by decide +kernel
section
variable {H : Type} {enc : TypeId × Value → H} {W : World} {base : Nat} {r : Reach} {b0 : Nat} {spare : Nat → Bool} {held : Bool} {v : Value} {d : DataW H} {p : List MemPlace}
theorem rd_strs (hv : Value.okWide Try.prog W r b0 27 v) (h : DataW.Trod enc Try.prog W base spare held 27 v d p) : ∃ l : List ByteArray, (l.length ≤ maxLen ∧ ∀ s ∈ l, s.size ≤ maxLen) ∧ rel (readS W) (encS l) v := by
  obtain ⟨a, n, c, rfl⟩ := okWide_slice Try.underlying27 hv
  obtain ⟨m, d', ht, hr⟩ := one_arg closedS (by decide) isAggT27 rfl h
  obtain ⟨l, he, h1, h2⟩ := typed_strs Try.underlying27 Try.underlying9 sizeT9 ht
  cases he
  exact ⟨l, ⟨h1, h2⟩, hr⟩
theorem rd_ints (hv : Value.okWide Try.prog W r b0 22 v) (h : DataW.Trod enc Try.prog W base spare held 22 v d p) : ∃ l : List Int, (l.length ≤ maxLen ∧ ∀ i ∈ l, -9223372036854775808 ≤ i ∧ i ≤ 9223372036854775807) ∧ rel (readS W) (encI l) v := by
  obtain ⟨a, n, c, rfl⟩ := okWide_slice Try.underlying22 hv
  obtain ⟨m, d', ht, hr⟩ := one_arg closedS (by decide) isAggT22 rfl h
  obtain ⟨l, he, h1, h2⟩ := typed_ints Try.underlying22 Try.underlying3 sizeT3 ht
  cases he
  exact ⟨l, ⟨h1, h2⟩, hr⟩
theorem rd_int (hv : Value.okWide Try.prog W r b0 3 v) (h : DataW.Trod enc Try.prog W base spare held 3 v d p) : ∃ i : Int, (-9223372036854775808 ≤ i ∧ i ≤ 9223372036854775807) ∧ rel (readS W) (.int .i64 i) v := by
  obtain ⟨n, rfl⟩ := okWide_int Try.underlying3 hv
  obtain ⟨m, d', ht, hr⟩ := one_arg closedS (by decide) isAggT3 rfl h
  obtain ⟨i, he, h1⟩ := typed_int Try.underlying3 ht
  cases he
  exact ⟨i, h1, hr⟩
theorem rd_str (hv : Value.okWide Try.prog W r b0 9 v) (h : DataW.Trod enc Try.prog W base spare held 9 v d p) : ∃ s : ByteArray, s.size ≤ maxLen ∧ rel (readS W) (.str s) v := by
  obtain ⟨n, rfl⟩ := okWide_string Try.underlying9 hv
  obtain ⟨m, d', ht, hr⟩ := one_arg closedS (by decide) isAggT9 rfl h
  obtain ⟨s, he, h1⟩ := typed_str Try.underlying9 ht
  cases he
  exact ⟨s, h1, hr⟩
theorem typed_edit {n : Nat} {ds : List D} (h : Typed Try.prog n 38 ds) : ∃ e : Ed, ds = cellsE e ∧ (-9223372036854775808 ≤ e.at_ ∧ e.at_ ≤ 9223372036854775807) ∧ e.old.length ≤ maxLen ∧ e.new.length ≤ maxLen := by
  obtain ⟨m, rfl, h⟩ := typed_struct Try.underlying38 h
  obtain ⟨d1, r1, rfl, h1, d2, r2, rfl, h2, d3, r3, rfl, h3, rfl⟩ := h
  obtain ⟨i, rfl, hi⟩ := typed_int Try.underlying3 h1
  obtain ⟨o, rfl, ho, _⟩ := typed_strs Try.underlying27 Try.underlying9 sizeT9 h2
  obtain ⟨n, rfl, hn, _⟩ := typed_strs Try.underlying27 Try.underlying9 sizeT9 h3
  exact ⟨⟨i, o, n⟩, rfl, hi, ho, hn⟩
theorem rd_edits (hv : Value.okWide Try.prog W r b0 36 v) (h : DataW.Trod enc Try.prog W base spare held 36 v d p) :
    ∃ l : List Ed, (l.length ≤ maxLen ∧ ∀ e ∈ l, (-9223372036854775808 ≤ e.at_ ∧ e.at_ ≤ 9223372036854775807) ∧ e.old.length ≤ maxLen ∧ e.new.length ≤ maxLen) ∧ rel (readS W) (encE l) v := by
  obtain ⟨a, n, c, rfl⟩ := okWide_slice Try.underlying36 hv
  obtain ⟨m, d', ht, hr⟩ := one_arg closedS (by decide) isAggT36 rfl h
  obtain ⟨m, parts, rfl, hl, hp, he⟩ := typed_slice Try.underlying36 ht
  obtain ⟨l, rfl, hq⟩ := list_of_parts (f := cellsE) (q := fun e : Ed => (-9223372036854775808 ≤ e.at_ ∧ e.at_ ≤ 9223372036854775807) ∧ e.old.length ≤ maxLen ∧ e.new.length ≤ maxLen) (fun p hp => typed_edit hp) parts hp
  refine ⟨l, ⟨by simpa using hl, hq⟩, ?_⟩
  have : d' = encE l := by
    simp only [List.cons.injEq, and_true] at he
    rw [he, isAggT38, sizeT38, List.map_map]; rfl
  rw [this] at hr; exact hr
end
end Go.Proofs.Ytophkniaaifmiaa.Glue
