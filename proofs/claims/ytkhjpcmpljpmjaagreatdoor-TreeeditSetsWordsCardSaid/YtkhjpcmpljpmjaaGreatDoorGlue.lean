/-
  The reading of the arguments of this chapter's laws. No condition.
-/
import Derived.Test.YtkhjpcmpljpmjaaGreatDoorLaid
import Derived.Test.YtkhjpcmpljpmjaaGreatDoorTree
import Derived.Test.YtkhjpcmpljpmjaaGreatDoorFew
import Derived.Carry
import Derived.WideShapes
set_option linter.unusedSimpArgs false
set_option linter.unusedVariables false
namespace Go.Proofs.YtkhjpcmpljpmjaaGreatDoor.Glue
open Go.ChangeShapes Go.WideShapes Go.ChangeAt Go.RowKit Abs Facts Tr
section
open Go.ChangeShapes
variable {H : Type} {enc : TypeId × Value → H} {P : Program} {w : World} {base : Nat} {spare : Nat → Bool} {held : Bool}
end
theorem ownK : ownKnob Tryz.prog.godebug = none := by kernel_rfl
theorem laidOutK : laidOutB Tryz.prog = true := by kernel_rfl
def S : List TypeId := [4, 3, 9, 23, 49, 51, 24, 27, 25]
set_option maxRecDepth 100000
theorem closedS : closedB Tryz.prog S = true := by decide +kernel
theorem typed_id {n : Nat} {ds : List D} (h : Typed Tryz.prog n 23 ds) : ∃ i : Idv, ds = cellsId i := by
  obtain ⟨m, rfl, h⟩ := typed_struct Tryz.underlying23 h
  obtain ⟨d1, r1, rfl, h1, d2, r2, rfl, h2, d3, r3, rfl, h3, rfl⟩ := h
  obtain ⟨i, rfl, _⟩ := typed_int Tryz.underlying3 h1
  obtain ⟨j, rfl, _⟩ := typed_int Tryz.underlying3 h2
  obtain ⟨k, rfl, _⟩ := typed_int Tryz.underlying3 h3
  exact ⟨⟨i, j, k⟩, rfl⟩
theorem typed_word {n : Nat} {ds : List D} (h : Typed Tryz.prog n 51 ds) : ∃ w : Wd, ds = cellsWd w := by
  obtain ⟨m, rfl, h⟩ := typed_struct Tryz.underlying51 h
  obtain ⟨d1, r1, rfl, h1, d2, r2, rfl, h2, rfl⟩ := h
  obtain ⟨s, rfl, _⟩ := typed_str Tryz.underlying9 h1
  obtain ⟨m', rfl, h3⟩ := typed_struct Tryz.underlying49 h2
  obtain ⟨e1, q1, rfl, g1, e2, q2, rfl, g2, e3, q3, rfl, g3, rfl⟩ := h3
  obtain ⟨i, rfl, _⟩ := typed_int Tryz.underlying3 g1
  obtain ⟨j, rfl, _⟩ := typed_int Tryz.underlying3 g2
  obtain ⟨k, rfl, _⟩ := typed_int Tryz.underlying3 g3
  exact ⟨⟨s, ⟨i, j, k⟩⟩, rfl⟩
theorem typed_words {n : Nat} {ds : List D} (h : Typed Tryz.prog n 24 ds) : ∃ l : List Wd, ds = [encWs l] ∧ l.length ≤ maxLen := by
  obtain ⟨m, parts, rfl, hl, hp, rfl⟩ := typed_slice Tryz.underlying24 h
  obtain ⟨l, rfl, _⟩ := list_of_parts (f := cellsWd) (q := fun _ => True) (fun p hp => by obtain ⟨w, e⟩ := typed_word hp; exact ⟨w, e, trivial⟩) parts hp
  refine ⟨l, ?_, by simpa using hl⟩
  rw [isAggT51, sizeT51, List.map_map]; rfl
theorem typed_unit : ∀ (n : Nat) {ds : List D}, Typed Tryz.prog n 27 ds → ∃ t : T, ds = cellsU t ∧ fitB t = true := by
  intro n
  induction n using Nat.strongRecOn with
  | ind n ih =>
    intro ds h
    obtain ⟨m, rfl, h⟩ := typed_struct Tryz.underlying27 h
    obtain ⟨d1, r1, rfl, h1, d2, r2, rfl, h2, d3, r3, rfl, h3, d4, r4, rfl, h4, d5, r5, rfl, h5, d6, r6, rfl, h6, rfl⟩ := h
    obtain ⟨i, rfl⟩ := typed_id h1
    obtain ⟨k, rfl, _⟩ := typed_int Tryz.underlying3 h2
    obtain ⟨s, rfl, _⟩ := typed_str Tryz.underlying9 h3
    obtain ⟨a, rfl, ha⟩ := typed_words h4
    obtain ⟨b, rfl, hb⟩ := typed_words h5
    obtain ⟨q, parts, rfl, hl, hp, rfl⟩ := typed_slice Tryz.underlying25 h6
    obtain ⟨l, rfl, hq⟩ := list_of_parts (f := cellsU) (q := fun t => fitB t = true) (fun p hp => ih q (by omega) hp) parts hp
    refine ⟨.mk i k s a b l, ?_, ?_⟩
    · rw [cellsU_eq, isAggT27, sizeT27, List.map_map]; rfl
    · rw [fit_iff]
      exact ⟨ha, hb, (show l.length ≤ _ by simpa using hl), hq⟩
section
variable {H : Type} {enc : TypeId × Value → H} {W : World} {base : Nat} {r : Reach} {b0 : Nat} {spare : Nat → Bool} {held : Bool} {v : Value} {d : DataW H} {p : List MemPlace}
theorem rd_id (hv : Value.okWide Tryz.prog W r b0 23 v) (h : DataW.Trod enc Tryz.prog W base spare held 23 v d p) : ∃ i : Idv, True ∧ rel (readS W) (encId i) v := by
  obtain ⟨cs, rfl, _⟩ := okWide_struct Tryz.underlying23 hv
  obtain ⟨m, ds, ht, hr⟩ := agg_arg closedS (by decide) h
  obtain ⟨q, rfl⟩ := typed_id ht
  exact ⟨q, trivial, hr⟩
theorem rd_unit (hv : Value.okWide Tryz.prog W r b0 27 v) (h : DataW.Trod enc Tryz.prog W base spare held 27 v d p) : ∃ t : T, fitB t = true ∧ rel (readS W) (encU t) v := by
  obtain ⟨cs, rfl, _⟩ := okWide_struct Tryz.underlying27 hv
  obtain ⟨m, ds, ht, hr⟩ := agg_arg closedS (by decide) h
  obtain ⟨q, rfl, hq⟩ := typed_unit _ ht
  exact ⟨q, hq, hr⟩
end
end Go.Proofs.YtkhjpcmpljpmjaaGreatDoor.Glue
