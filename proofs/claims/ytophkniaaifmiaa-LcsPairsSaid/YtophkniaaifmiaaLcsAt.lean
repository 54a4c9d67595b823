/- the walk of the closure that reads the table -/
import Derived.Test.YtophkniaaifmiaaFacts
import Derived.Test.YtophkniaaifmiaaLcs
namespace Go.Proofs.Ytophkniaaifmiaa
open Abs Facts
attribute [local irreducible] awp
/-- The table's reader. -/
theorem pc36 (i k w : Nat) (cs : List Int) (v : Int) (hv : cs[i * w + k]? = some v) (hc : cs.length ≤ 100000) : PC Try.prog 36 [.int .i64 i, .int .i64 k, .rptr (encI cs), .rptr (.int .i64 w)] (.int .i64 v) := by
  obtain ⟨hlt, hv'⟩ := List.getElem?_eq_some_iff.1 hv
  refine PC_intro 1 (by simp only [pureD.pureL, pureD, pure_encI, Bool.and_self]) rfl (AC_intro [] Try.func36 rfl (by decide +kernel) mixed (by decide +kernel) (by simp [Try.ntmps36]) ?_)
  show awp _ _ (Code.seq _ _) _ _
  have w1 : IntKind.i64.wrap ((i : Int) * (w : Int)) = ((i * w : Nat) : Int) := by rw [← Int.natCast_mul]; exact wrapI (by omega)
  have w2 : IntKind.i64.wrap (((i * w : Nat) : Int) + (k : Int)) = ((i * w + k : Nat) : Int) := by rw [← Int.natCast_add]; exact wrapI (by omega)
  have i1 := idxD_map (D.int .i64) cs _ hlt
  (refine awp_seq_reg fun K hK => ?_); (simp only [go_sem]); (refine hK _ ?_); (clear hK K)
  (refine awp_seq_reg fun K hK => ?_); (simp only [go_sem, Nat.reduceBEq, reduceCtorEq, ne_eq, not_false_eq_true, Nat.reduceAdd, beq_self_eq_true, encI, w1, w2, i1]); (refine hK _ ?_); (clear hK K)
  (refine awp_ret ?_); (refine Exists.intro _ (And.intro rfl ?_))
  exact fin_int hv'
end Go.Proofs.Ytophkniaaifmiaa
