/-
  The reading of the arguments of this chapter's laws. No condition.
-/
import Derived.Test.YtkhjpcmpljpmjaaDoorLaid
import Derived.Test.YtkhjpcmpljpmjaaDoorTree
import Derived.Test.YtkhjpcmpljpmjaaDoorFew
import Derived.Carry
import Derived.WideShapes
set_option linter.unusedSimpArgs false
set_option linter.unusedVariables false
namespace Go.Proofs.YtkhjpcmpljpmjaaDoor.Glue
open Go.ChangeShapes Go.WideShapes Go.ChangeAt Go.RowKit Abs Facts Tr
section
open Go.ChangeShapes
variable {H : Type} {enc : TypeId × Value → H} {P : Program} {w : World} {base : Nat} {spare : Nat → Bool} {held : Bool}
end
theorem ownK : ownKnob Tryd.prog.godebug = none := by kernel_rfl
theorem laidOutK : laidOutB Tryd.prog = true := by kernel_rfl
def S : List TypeId := [4, 3, 9, 23, 35, 37, 24, 27, 25]
set_option maxRecDepth 100000
theorem closedS : closedB Tryd.prog S = true := by decide +kernel
theorem typed_id {n : Nat} {ds : List D} (h : Typed Tryd.prog n 23 ds) : ∃ i : Idv, ds = cellsId i := by
  obtain ⟨m, rfl, h⟩ := typed_struct Tryd.underlying23 h
  obtain ⟨d1, r1, rfl, h1, d2, r2, rfl, h2, d3, r3, rfl, h3, rfl⟩ := h
  obtain ⟨i, rfl, _⟩ := typed_int Tryd.underlying3 h1
  obtain ⟨j, rfl, _⟩ := typed_int Tryd.underlying3 h2
  obtain ⟨k, rfl, _⟩ := typed_int Tryd.underlying3 h3
  exact ⟨⟨i, j, k⟩, rfl⟩
theorem typed_word {n : Nat} {ds : List D} (h : Typed Tryd.prog n 37 ds) : ∃ w : Wd, ds = cellsWd w := by
  obtain ⟨m, rfl, h⟩ := typed_struct Tryd.underlying37 h
  obtain ⟨d1, r1, rfl, h1, d2, r2, rfl, h2, rfl⟩ := h
  obtain ⟨s, rfl, _⟩ := typed_str Tryd.underlying9 h1
  obtain ⟨m', rfl, h3⟩ := typed_struct Tryd.underlying35 h2
  obtain ⟨e1, q1, rfl, g1, e2, q2, rfl, g2, e3, q3, rfl, g3, rfl⟩ := h3
  obtain ⟨i, rfl, _⟩ := typed_int Tryd.underlying3 g1
  obtain ⟨j, rfl, _⟩ := typed_int Tryd.underlying3 g2
  obtain ⟨k, rfl, _⟩ := typed_int Tryd.underlying3 g3
  exact ⟨⟨s, ⟨i, j, k⟩⟩, rfl⟩
theorem typed_words {n : Nat} {ds : List D} (h : Typed Tryd.prog n 24 ds) : ∃ l : List Wd, ds = [encWs l] ∧ l.length ≤ maxLen := by
  obtain ⟨m, parts, rfl, hl, hp, rfl⟩ := typed_slice Tryd.underlying24 h
  obtain ⟨l, rfl, _⟩ := list_of_parts (f := cellsWd) (q := fun _ => True) (fun p hp => by obtain ⟨w, e⟩ := typed_word hp; exact ⟨w, e, trivial⟩) parts hp
  refine ⟨l, ?_, by simpa using hl⟩
  rw [isAggT37, sizeT37, List.map_map]; rfl
theorem typed_unit : ∀ (n : Nat) {ds : List D}, Typed Tryd.prog n 27 ds → ∃ t : T, ds = cellsU t ∧ fitB t = true := by
  intro n
  induction n using Nat.strongRecOn with
  | ind n ih =>
    intro ds h
    obtain ⟨m, rfl, h⟩ := typed_struct Tryd.underlying27 h
    obtain ⟨d1, r1, rfl, h1, d2, r2, rfl, h2, d3, r3, rfl, h3, d4, r4, rfl, h4, d5, r5, rfl, h5, d6, r6, rfl, h6, rfl⟩ := h
    obtain ⟨i, rfl⟩ := typed_id h1
    obtain ⟨k, rfl, _⟩ := typed_int Tryd.underlying3 h2
    obtain ⟨s, rfl, _⟩ := typed_str Tryd.underlying9 h3
    obtain ⟨a, rfl, ha⟩ := typed_words h4
    obtain ⟨b, rfl, hb⟩ := typed_words h5
    obtain ⟨q, parts, rfl, hl, hp, rfl⟩ := typed_slice Tryd.underlying25 h6
    obtain ⟨l, rfl, hq⟩ := list_of_parts (f := cellsU) (q := fun t => fitB t = true) (fun p hp => ih q (by omega) hp) parts hp
    refine ⟨.mk i k s a b l, ?_, ?_⟩
    · rw [cellsU_eq, isAggT27, sizeT27, List.map_map]; rfl
    · rw [fit_iff]
      exact ⟨ha, hb, (show l.length ≤ _ by simpa using hl), hq⟩
section
variable {H : Type} {enc : TypeId × Value → H} {W : World} {base : Nat} {r : Reach} {b0 : Nat} {spare : Nat → Bool} {held : Bool} {v : Value} {d : DataW H} {p : List MemPlace}
theorem rd_int (hv : Value.okWide Tryd.prog W r b0 3 v) (h : DataW.Trod enc Tryd.prog W base spare held 3 v d p) : ∃ i : Int, (-9223372036854775808 ≤ i ∧ i ≤ 9223372036854775807) ∧ rel (readS W) (.int .i64 i) v := by
  obtain ⟨n, rfl⟩ := okWide_int Tryd.underlying3 hv
  obtain ⟨m, d', ht, hr⟩ := one_arg closedS (by decide) isAggT3 rfl h
  obtain ⟨i, he, h1⟩ := typed_int Tryd.underlying3 ht
  cases he
  exact ⟨i, h1, hr⟩
end
end Go.Proofs.YtkhjpcmpljpmjaaDoor.Glue
