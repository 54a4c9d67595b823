/-
  From the reading of a law's arguments to abstract values: a law's contract gives its call. No condition.
-/
import Derived.Test.YtjibdljdkgedcaaAbs16
import Derived.ProofKit
import Derived.ChangeSlices
import Derived.Below
set_option linter.unusedSimpArgs false
set_option linter.unusedVariables false
namespace Go.Proofs.Ytjibdljdkgedcaa.Abs
open Go.RowKit Go.ChangeShapes

/-- The state in which nothing is owned and all memory is read. -/
def readS (W : World) : RS := { m := W.cell?, H := noH, nx := 0, κ := fun _ => .pointer none }
/-- The package variables hold what is listed. -/
def GlobOK (W : World) : Prop := ∀ g, rel (readS W) (globD g) (.pointer (some ⟨g, 0, none⟩))
theorem globOK_any (W : World) : GlobOK W := fun g => by simp only [globD, rel]
theorem readS_RH (P : Program) (W : World) (hg : GlobOK W) : RH P (readS W) W :=
  ⟨fun a v h => ⟨h, by rintro ⟨id, hid, _⟩; exact absurd hid (Nat.not_lt_zero _)⟩, fun id o ho => (by cases ho), fun i j hi => (hi rfl).elim, hg⟩
theorem law_calls {P : Program} {f : FuncId} {ds : List D} {v : Value} {d : D} (h : PC P f ds d) (hd : ∀ s u, rel s d u → u = v) {W : World} (hg : GlobOK W) {vs : List Value} (hr : relAll (readS W) ds vs) :
    Calls P f vs.toArray W fun e W' => e = .returned v ∧ Below W.heap.size W W' := by
  refine (h.2.2.2 (readS W) W vs rfl rfl (readS_RH P W hg) hr).mono fun e W' ⟨u, r', s', he, hrr, hstep, _, hrel⟩ => ?_
  subst hrr
  rw [hd _ _ hrel] at he
  exact ⟨he, hstep.os, hstep.tape, hstep.output, hstep.size, fun k hk => hstep.keep k hk (by rintro ⟨id, hid, _⟩; exact absurd hid (Nat.not_lt_zero _))⟩
end Go.Proofs.Ytjibdljdkgedcaa.Abs
namespace Go.Proofs.Ytjibdljdkgedcaa.Abs
open Go.RowKit Go.ChangeShapes
end Go.Proofs.Ytjibdljdkgedcaa.Abs
