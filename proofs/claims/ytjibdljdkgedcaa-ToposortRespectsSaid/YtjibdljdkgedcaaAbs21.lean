/-
  Contracts of functions that leave the caller's objects, change one of them, or give back new ones. No condition.
-/
import Derived.Test.YtjibdljdkgedcaaAbs20
set_option linter.unusedSimpArgs false
set_option linter.unusedVariables false
namespace Go.Proofs.Ytjibdljdkgedcaa.Abs
open Go.RowKit
variable {P : Program}
theorem cut_keep {s : RS} {w : World} (hRH : RH P s w) {H' : HM} (hk : ∀ id, id < s.nx → H' id = s.H id) : cutH s.nx H' = s.H := by
  funext id
  unfold cutH
  split
  · rename_i hlt; exact hk id hlt
  · rename_i hlt
    cases hH : s.H id with
    | none => rfl
    | some o => have := (hRH.obj id o hH).1; omega
/-- A function that leaves the caller's objects, and whose result is only read. -/
theorem RC_keep {f : FuncId} {ds : List D} {H : HM} {nx : Nat} {r : D} (hr : pureD r = true)
    (h : AC P f ds H nx fun r' H' _ => r' = r ∧ ∀ id, id < nx → H' id = H id) : RC P f ds H nx r := by
  have h1 := AC_drop h (fun r' H' nx' ⟨hr', hk⟩ => by
    subst hr'
    exact ⟨low_pure _ _ hr, fun id o hid ho => .inl (by rw [← hk id hid]; exact ho)⟩)
  refine ⟨h1.1, fun s w vs e1 e2 e3 e4 => (h1.2 s w vs e1 e2 e3 e4).mono fun e w' ⟨v, r1, s1, he, ⟨hnx, H', nx', ⟨hr', hk⟩, hcut⟩, hstep, hRH, hrel⟩ => ⟨v, r1, s1, he, ⟨hr', ?_, hnx⟩, hstep, hRH, hrel⟩⟩
  subst e1; subst e2
  rw [hcut]; exact cut_keep e3 hk
theorem cond_ne {α : Type} {i j : Nat} {a b : α} (h : ¬ i = j) : (bif i == j then a else b) = b := by
  rw [show (i == j) = false from by simpa using h]; rfl
end Go.Proofs.Ytjibdljdkgedcaa.Abs
