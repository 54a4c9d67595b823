/- the walk of awake: the examples of the chapter hold -/
import Derived.Test.YtophkniaaifmiaaLcsPairs
import Derived.Test.YtophkniaaifmiaaInts
namespace Go.Proofs.Ytophkniaaifmiaa
open Abs Facts
attribute [local irreducible] awp
@[go_sem] theorem eqGuard33 : Try.prog.eqGuardType Try.prog.depth 33 = false := by kernel_rfl
@[go_sem] theorem eqPair (a b c d : Int) : eqD Try.prog 8 33 (.agg [.int .i64 a, .int .i64 b]) (.agg [.int .i64 c, .int .i64 d]) = some (a == c && b == d) := by
  have h : eqD Try.prog 8 33 (.agg [.int .i64 a, .int .i64 b]) (.agg [.int .i64 c, .int .i64 d]) = (match (if IntKind.i64 = IntKind.i64 then some (a == c) else none) with
    | some r => if r = true then (match (if IntKind.i64 = IntKind.i64 then some (b == d) else none) with | some r => if r = true then some true else some false | none => none) else some false
    | none => none) := by kernel_rfl
  rw [h]
  cases (a == c) <;> cases (b == d) <;> rfl
def exA : List ByteArray := [⟨#[97]⟩, ⟨#[98]⟩, ⟨#[99]⟩]
def exB : List ByteArray := [⟨#[98]⟩, ⟨#[100]⟩, ⟨#[99]⟩]
theorem exPairs : Lcs.pairs exA exB = [(1, 0), (2, 2)] := by decide +kernel
theorem exLis : Lis.lis [3, 1, 2] = [1, 2] := by decide +kernel
theorem pc15ex : PC Try.prog 15 [.rsl true 1 [.str ⟨#[97]⟩, .str ⟨#[98]⟩, .str ⟨#[99]⟩], .rsl true 1 [.str ⟨#[98]⟩, .str ⟨#[100]⟩, .str ⟨#[99]⟩]] (encP [(1, 0), (2, 2)]) := by
  have h := pc15 exA exB (by decide) (by decide)
  rw [exPairs] at h
  exact h.le rfl ⟨Le.rsl, Le.rsl, trivial⟩
theorem pc11ex : PC Try.prog 11 [.rsl true 1 [.int .i64 3, .int .i64 1, .int .i64 2]] (encI [1, 2]) := by
  have h := pc11 [3, 1, 2] (by decide)
  rw [exLis] at h
  exact h.le rfl ⟨Le.rsl, trivial⟩
theorem pc12ex : PC Try.prog 12 [encI [1, 2], .rsl true 1 [.int .i64 1, .int .i64 2]] (.bool true) := by
  have h := pc12 [1, 2] [1, 2] (by decide) (by decide)
  exact h.le rfl ⟨Le.refl _, Le.rsl, trivial⟩
set_option maxRecDepth 100000 in
set_option maxHeartbeats 2000000 in
/-- The examples of the chapter hold. -/
theorem pc10 : PC Try.prog 10 [] (.bool true) := by
  refine PC_intro 1 rfl rfl (AC_intro [] Try.func10 rfl (by decide +kernel) mixed (by decide +kernel) (by simp [Try.ntmps10]) ?_)
  show awp _ _ (Code.seq _ _) _ _
  (refine awp_seq_reg fun K hK => ?_); (simp only [go_sem]); (refine hK _ ?_); (clear hK K)
  repeat refine awp_assoc ?_
  refine awp_seq_reg fun K hK => ?_
  simp only [go_sem, Nat.reduceBEq, reduceCtorEq, ne_eq, not_false_eq_true, Nat.reduceAdd, Nat.reduceLeDiff, List.length_cons, List.length_nil, beq_self_eq_true, Bool.and_true, or_true, Nat.mul_one, Nat.zero_add]
  refine callW_pc pc15ex ?_
  simp only [go_sem, Nat.reduceBEq, beq_self_eq_true, Nat.zero_add]
  refine hK _ ?_
  clear hK K
  refine awp_seq_reg fun K hK => ?_
  simp only [go_sem, Nat.reduceBEq, reduceCtorEq, ne_eq, not_false_eq_true, Nat.reduceAdd, Nat.reduceLeDiff, List.length_cons, List.length_nil, beq_self_eq_true, Bool.and_true, or_true, Nat.mul_one, Nat.zero_add]
  refine callW_pc pc11ex ?_
  simp only [go_sem, Nat.reduceBEq, beq_self_eq_true]
  refine hK _ ?_
  clear hK K
  have n0 : ((0 : Nat) : Int) = 0 := rfl
  have n1 : ((1 : Nat) : Int) = 1 := rfl
  have n2 : ((2 : Nat) : Int) = 2 := rfl
  refine awp_seq_reg fun K hK => ?_
  simp only [go_sem, Nat.reduceBEq, decide_true, reduceCtorEq, ne_eq, not_false_eq_true, Nat.reduceAdd, Nat.reduceLeDiff, Int.reduceLT, Int.reduceLE, List.length_cons, List.length_nil, beq_self_eq_true, Bool.and_true, or_true, List.set_cons_zero, List.set_cons_succ, Nat.mul_one, Nat.zero_add, encP, cellsP, n0, n1, n2, idxD, Int.reduceToNat, Int.reduceLT]
  refine callW_pc pc12ex ?_
  simp only [go_sem, Nat.reduceBEq, beq_self_eq_true]
  refine hK _ ?_
  clear hK K
  (refine awp_ret ?_); (refine Exists.intro _ (And.intro rfl ?_))
  exact fin_bool rfl
end Go.Proofs.Ytophkniaaifmiaa
