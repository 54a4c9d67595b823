/-
  The walk of the law ToposortSort. No condition but lengths.
-/
import Derived.Test.YtjibdljdkgedcaaAwake
import Derived.Test.YtjibdljdkgedcaaOrders
set_option linter.unusedSimpArgs false
set_option linter.unusedVariables false
namespace Go.Proofs.Ytjibdljdkgedcaa
open Abs Facts Topo
attribute [local irreducible] awp
namespace Topo
theorem wrong_pos {n : Int} {l : List Pr} (h : wrong n l = 0) : ∃ m : Nat, n = m ∧ m ≤ 16 ∧ okL m l ∧ l.length ≤ 64 ∧ graphL n l = edges l := by
  unfold wrong at h
  split at h
  · cases h
  · rename_i hn
    split at h
    · rename_i ha
      split at h
      · cases h
      · refine ⟨n.toNat, by omega, by omega, fun p hp => ?_, by omega, ?_⟩
        · have := List.all_eq_true.1 ha p hp
          rwa [show ((n.toNat : Nat) : Int) = n by omega]
        · unfold graphL
          rw [if_neg hn, takeWhile_all _ _ ha]
    · cases h
theorem sortR_ok {m : Nat} {l : List Pr} (hm : m ≤ 16) (hl : okL m l) (hg : graphL m l = edges l) (h : wrong m l = 0) : sortR m l = match orderF l m m [] with | none => (14, []) | some out => (0, out) := by
  unfold sortR
  rw [if_neg (by simp [h]), hg, Int.toNat_natCast, sortF_eq hm hl m [] 0 (fun i _ => by simp)]
  cases orderF l m m [] <;> rfl
end Topo
end Go.Proofs.Ytjibdljdkgedcaa
