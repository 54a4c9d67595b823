/-
 The walk of the reference's Write; the laws TreeeditRelabels and TreeeditSetsWords. No condition but lengths.
-/
import Derived.Test.YtkhjpcmpljpmjaaGreatDoorEdRelWr
import Derived.Test.YtkhjpcmpljpmjaaGreatDoorLaw8AB
set_option linter.unusedSimpArgs false
set_option linter.unusedVariables false
namespace Go.Proofs.YtkhjpcmpljpmjaaGreatDoor
open Abs Facts Tr
attribute [local irreducible] awp
namespace Tr
theorem sz_setLabel {name : ByteArray} (hn : name.size ≤ 1000000) {q : T} (h : szB q = true) : szB (q.setLabel name) = true := by
 obtain ⟨_, h1, h2, h3, h4, h5, h6⟩ := (sz_iff q).1 h
 exact (sz_iff _).2 ⟨hn, h1, h2, h3, h4, h5, h6⟩
theorem sz_setWords {l : List Wd} (hl : l.length ≤ 1000000) (hw : ∀ w ∈ l, w.text.size ≤ 1000000) {q : T} (h : szB q = true) : szB (q.setWords l) = true := by
 obtain ⟨h0, h1, h2, _, _, h5, h6⟩ := (sz_iff q).1 h
 exact (sz_iff _).2 ⟨h0, h1, h2, hl, hw, h5, h6⟩
end Tr
end Go.Proofs.YtkhjpcmpljpmjaaGreatDoor
