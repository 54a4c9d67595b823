/-
  No cell of these rows narrows 'for every input' (looked for: loops, veiled, ifaces, maps, wideKeys, modest, calm, conditions, laid).
  DERIVED. THE GIVEN ROWS OF THIS SEAT. 7 by the template 'for every input the law returns true; each argument reads behind the call as it read before'; 0 by the template 'total and deterministic' (their statements: YtjibdljdkgedcaaTotals.lean).
  GIVEN WITH THE SEED: the statements are not yours to turn. If you find one false, say at which input.
  Laid BY PROGRAM, IN A SANDBOX (cutbox-rows.mjs): the forced cells as the released guide's own fill.sh prints them over the translation 143a2deec2219876… (all of the seat's roots in one cut). By AI agents, Wed Nov 11 2026. No macro, syntax, notation, axiom, sorry.
-/
import Derived.Test.YtjibdljdkgedcaaChecked
import GoSem.Claim
import GoSem.ClaimJoined
import GoSem.ClaimMapViews
import Derived.JoinedTies
import Derived.KernelRfl
namespace Go.Proofs.Ytjibdljdkgedcaa
/- THE CELL 'sum', in the pinned program and in every row, IS THE sha256 OF THE DUMP (.gsa) THAT YtjibdljdkgedcaaProg.lean LOADS. Nothing in Lean hashes anything: it is a label: what it is worth is what the hold of that sum in a sandbox is worth. -/
noncomputable def Try.pinned : Pinned := { name := "ytjibdljdkgedcaa", sum := "143a2deec2219876604ad5598e8a167a1e21cc9aeb5ece518b6a0f6b15ed2fc9", checked := Try.checked }
namespace Rows
def none {H : Type} : Left H := { results := [], args := [] }

/-- 'pandectlaw39.ToposortSort': WHATEVER THE INPUT: true; the input reads as it did. -/
def toposortSortSpec : ChangeSpec := { name := "toposortSort", fn := fun _ => fun
  | [d1, d2] => { results := [.lit (.bool true)], args := [d1, d2] }
  | _ => none }
def toposortSortRow : OpenClaim := { program := "ytjibdljdkgedcaa", sum := "143a2deec2219876604ad5598e8a167a1e21cc9aeb5ece518b6a0f6b15ed2fc9", func := "pandect/pandectlaw39.ToposortSort", spec := "toposortSort", unfollowed := true, recurses := true, apart := false }
def ToposortSortSaid : Prop := toposortSortRow.holds Try.pinned (OpenSpec.ofChange toposortSortSpec)

/-- ITS FALSE NEIGHBOUR: 'it returns false'. Refute it at one input. -/
def toposortSortWrong : ChangeSpec := { name := "toposortSort", fn := fun _ => fun
  | [d1, d2] => { results := [.lit (.bool false)], args := [d1, d2] }
  | _ => none }
def ToposortSortWrongFalsely : Prop := toposortSortRow.holds Try.pinned (OpenSpec.ofChange toposortSortWrong)

/-- 'pandectlaw39.ToposortCycle': WHATEVER THE INPUT: true; the input reads as it did. -/
def toposortCycleSpec : ChangeSpec := { name := "toposortCycle", fn := fun _ => fun
  | [d1, d2] => { results := [.lit (.bool true)], args := [d1, d2] }
  | _ => none }
def toposortCycleRow : OpenClaim := { program := "ytjibdljdkgedcaa", sum := "143a2deec2219876604ad5598e8a167a1e21cc9aeb5ece518b6a0f6b15ed2fc9", func := "pandect/pandectlaw39.ToposortCycle", spec := "toposortCycle", unfollowed := true, recurses := true, apart := false }
def ToposortCycleSaid : Prop := toposortCycleRow.holds Try.pinned (OpenSpec.ofChange toposortCycleSpec)

/-- ITS FALSE NEIGHBOUR: 'it returns false'. Refute it at one input. -/
def toposortCycleWrong : ChangeSpec := { name := "toposortCycle", fn := fun _ => fun
  | [d1, d2] => { results := [.lit (.bool false)], args := [d1, d2] }
  | _ => none }
def ToposortCycleWrongFalsely : Prop := toposortCycleRow.holds Try.pinned (OpenSpec.ofChange toposortCycleWrong)

/-- 'pandectlaw39.ToposortCount': WHATEVER THE INPUT: true; the input reads as it did. -/
def toposortCountSpec : ChangeSpec := { name := "toposortCount", fn := fun _ => fun
  | [d1, d2] => { results := [.lit (.bool true)], args := [d1, d2] }
  | _ => none }
def toposortCountRow : OpenClaim := { program := "ytjibdljdkgedcaa", sum := "143a2deec2219876604ad5598e8a167a1e21cc9aeb5ece518b6a0f6b15ed2fc9", func := "pandect/pandectlaw39.ToposortCount", spec := "toposortCount", unfollowed := true, recurses := true, apart := false }
def ToposortCountSaid : Prop := toposortCountRow.holds Try.pinned (OpenSpec.ofChange toposortCountSpec)

/-- ITS FALSE NEIGHBOUR: 'it returns false'. Refute it at one input. -/
def toposortCountWrong : ChangeSpec := { name := "toposortCount", fn := fun _ => fun
  | [d1, d2] => { results := [.lit (.bool false)], args := [d1, d2] }
  | _ => none }
def ToposortCountWrongFalsely : Prop := toposortCountRow.holds Try.pinned (OpenSpec.ofChange toposortCountWrong)

/-- 'pandectlaw39.ToposortCountSum': WHATEVER THE INPUT: true; the input reads as it did. -/
def toposortCountSumSpec : ChangeSpec := { name := "toposortCountSum", fn := fun _ => fun
  | [d1, d2] => { results := [.lit (.bool true)], args := [d1, d2] }
  | _ => none }
def toposortCountSumRow : OpenClaim := { program := "ytjibdljdkgedcaa", sum := "143a2deec2219876604ad5598e8a167a1e21cc9aeb5ece518b6a0f6b15ed2fc9", func := "pandect/pandectlaw39.ToposortCountSum", spec := "toposortCountSum", unfollowed := true, recurses := true, apart := false }
def ToposortCountSumSaid : Prop := toposortCountSumRow.holds Try.pinned (OpenSpec.ofChange toposortCountSumSpec)

/-- ITS FALSE NEIGHBOUR: 'it returns false'. Refute it at one input. -/
def toposortCountSumWrong : ChangeSpec := { name := "toposortCountSum", fn := fun _ => fun
  | [d1, d2] => { results := [.lit (.bool false)], args := [d1, d2] }
  | _ => none }
def ToposortCountSumWrongFalsely : Prop := toposortCountSumRow.holds Try.pinned (OpenSpec.ofChange toposortCountSumWrong)

/-- 'pandectlaw39.ToposortImplied': WHATEVER THE INPUT: true; the input reads as it did. -/
def toposortImpliedSpec : ChangeSpec := { name := "toposortImplied", fn := fun _ => fun
  | [d1, d2, d3, d4] => { results := [.lit (.bool true)], args := [d1, d2, d3, d4] }
  | _ => none }
def toposortImpliedRow : OpenClaim := { program := "ytjibdljdkgedcaa", sum := "143a2deec2219876604ad5598e8a167a1e21cc9aeb5ece518b6a0f6b15ed2fc9", func := "pandect/pandectlaw39.ToposortImplied", spec := "toposortImplied", unfollowed := true, recurses := true, apart := false }
def ToposortImpliedSaid : Prop := toposortImpliedRow.holds Try.pinned (OpenSpec.ofChange toposortImpliedSpec)

/-- ITS FALSE NEIGHBOUR: 'it returns false'. Refute it at one input. -/
def toposortImpliedWrong : ChangeSpec := { name := "toposortImplied", fn := fun _ => fun
  | [d1, d2, d3, d4] => { results := [.lit (.bool false)], args := [d1, d2, d3, d4] }
  | _ => none }
def ToposortImpliedWrongFalsely : Prop := toposortImpliedRow.holds Try.pinned (OpenSpec.ofChange toposortImpliedWrong)

/-- 'pandectlaw39.ToposortAddPair': WHATEVER THE INPUT: true; the input reads as it did. -/
def toposortAddPairSpec : ChangeSpec := { name := "toposortAddPair", fn := fun _ => fun
  | [d1, d2, d3] => { results := [.lit (.bool true)], args := [d1, d2, d3] }
  | _ => none }
def toposortAddPairRow : OpenClaim := { program := "ytjibdljdkgedcaa", sum := "143a2deec2219876604ad5598e8a167a1e21cc9aeb5ece518b6a0f6b15ed2fc9", func := "pandect/pandectlaw39.ToposortAddPair", spec := "toposortAddPair", unfollowed := true, recurses := true, apart := false }
def ToposortAddPairSaid : Prop := toposortAddPairRow.holds Try.pinned (OpenSpec.ofChange toposortAddPairSpec)

/-- ITS FALSE NEIGHBOUR: 'it returns false'. Refute it at one input. -/
def toposortAddPairWrong : ChangeSpec := { name := "toposortAddPair", fn := fun _ => fun
  | [d1, d2, d3] => { results := [.lit (.bool false)], args := [d1, d2, d3] }
  | _ => none }
def ToposortAddPairWrongFalsely : Prop := toposortAddPairRow.holds Try.pinned (OpenSpec.ofChange toposortAddPairWrong)

/-- 'pandectlaw39.ToposortRespects': WHATEVER THE INPUT: true; the input reads as it did. -/
def toposortRespectsSpec : ChangeSpec := { name := "toposortRespects", fn := fun _ => fun
  | [d1, d2, d3] => { results := [.lit (.bool true)], args := [d1, d2, d3] }
  | _ => none }
def toposortRespectsRow : OpenClaim := { program := "ytjibdljdkgedcaa", sum := "143a2deec2219876604ad5598e8a167a1e21cc9aeb5ece518b6a0f6b15ed2fc9", func := "pandect/pandectlaw39.ToposortRespects", spec := "toposortRespects", unfollowed := true, recurses := true, apart := false }
def ToposortRespectsSaid : Prop := toposortRespectsRow.holds Try.pinned (OpenSpec.ofChange toposortRespectsSpec)

/-- ITS FALSE NEIGHBOUR: 'it returns false'. Refute it at one input. -/
def toposortRespectsWrong : ChangeSpec := { name := "toposortRespects", fn := fun _ => fun
  | [d1, d2, d3] => { results := [.lit (.bool false)], args := [d1, d2, d3] }
  | _ => none }
def ToposortRespectsWrongFalsely : Prop := toposortRespectsRow.holds Try.pinned (OpenSpec.ofChange toposortRespectsWrong)

/- THE SECOND FORM. 'bulk': how many values and letters a reading holds, each counted each time it is reached (what is shared counts as often as it is met; a slice's spare places count too). A statement '..UptoSaid' is the law's where the arguments, and the package variables that the reading takes, are together of bulk at most 1048576: NARROWER than '..Said'. Prove '..Said' where nothing that the law and all that it calls make is longer than what came in: it says more and counts as full. Else prove '..UptoSaid'. A law counts once. -/
mutual
def uptoBulk {H : Type} : DataW H → Nat
  | .lit (.string bytes) => bytes.length + 1
  | .lit _ => 1
  | .nil => 1
  | .ptr d => uptoBulk d + 1
  | .slice elems spare => uptoBulkAll elems + uptoBulkAll spare + 1
  | .agg parts => uptoBulkAll parts + 1
  | .iface _ d => uptoBulk d + 1
  | .map entries => uptoBulkEntries entries + 1
  | .held _ => 1
def uptoBulkAll {H : Type} : List (DataW H) → Nat
  | [] => 0
  | d :: r => uptoBulk d + uptoBulkAll r
def uptoBulkEntries {H : Type} : List (Lit × DataW H) → Nat
  | [] => 0
  | x :: r => uptoBulkEntry x + uptoBulkEntries r
def uptoBulkEntry {H : Type} : Lit × DataW H → Nat
  | (.string bytes, d) => bytes.length + uptoBulk d + 1
  | (_, d) => uptoBulk d + 1
 end
def uptoSmall : (H : Type) → List (DataW H) → Bool := fun _ ds => decide (uptoBulkAll ds ≤ 1048576)
def OpenSpec.upto (s : _root_.Go.ChangeSpec) : _root_.Go.OpenSpec := { _root_.Go.OpenSpec.ofChange s with cond := some uptoSmall }

/-- 'pandectlaw39.ToposortSort', WHERE WHAT IT READS IS OF BULK AT MOST 1048576: true; the input reads as it did. -/
def toposortSortUptoRow : OpenClaim := { program := "ytjibdljdkgedcaa", sum := "143a2deec2219876604ad5598e8a167a1e21cc9aeb5ece518b6a0f6b15ed2fc9", func := "pandect/pandectlaw39.ToposortSort", spec := "toposortSort", unfollowed := true, recurses := true, apart := false, narrowed := true }
def ToposortSortUptoSaid : Prop := toposortSortUptoRow.holds Try.pinned (OpenSpec.upto toposortSortSpec)

/-- 'pandectlaw39.ToposortCycle', WHERE WHAT IT READS IS OF BULK AT MOST 1048576: true; the input reads as it did. -/
def toposortCycleUptoRow : OpenClaim := { program := "ytjibdljdkgedcaa", sum := "143a2deec2219876604ad5598e8a167a1e21cc9aeb5ece518b6a0f6b15ed2fc9", func := "pandect/pandectlaw39.ToposortCycle", spec := "toposortCycle", unfollowed := true, recurses := true, apart := false, narrowed := true }
def ToposortCycleUptoSaid : Prop := toposortCycleUptoRow.holds Try.pinned (OpenSpec.upto toposortCycleSpec)

/-- 'pandectlaw39.ToposortCount', WHERE WHAT IT READS IS OF BULK AT MOST 1048576: true; the input reads as it did. -/
def toposortCountUptoRow : OpenClaim := { program := "ytjibdljdkgedcaa", sum := "143a2deec2219876604ad5598e8a167a1e21cc9aeb5ece518b6a0f6b15ed2fc9", func := "pandect/pandectlaw39.ToposortCount", spec := "toposortCount", unfollowed := true, recurses := true, apart := false, narrowed := true }
def ToposortCountUptoSaid : Prop := toposortCountUptoRow.holds Try.pinned (OpenSpec.upto toposortCountSpec)

/-- 'pandectlaw39.ToposortCountSum', WHERE WHAT IT READS IS OF BULK AT MOST 1048576: true; the input reads as it did. -/
def toposortCountSumUptoRow : OpenClaim := { program := "ytjibdljdkgedcaa", sum := "143a2deec2219876604ad5598e8a167a1e21cc9aeb5ece518b6a0f6b15ed2fc9", func := "pandect/pandectlaw39.ToposortCountSum", spec := "toposortCountSum", unfollowed := true, recurses := true, apart := false, narrowed := true }
def ToposortCountSumUptoSaid : Prop := toposortCountSumUptoRow.holds Try.pinned (OpenSpec.upto toposortCountSumSpec)

/-- 'pandectlaw39.ToposortImplied', WHERE WHAT IT READS IS OF BULK AT MOST 1048576: true; the input reads as it did. -/
def toposortImpliedUptoRow : OpenClaim := { program := "ytjibdljdkgedcaa", sum := "143a2deec2219876604ad5598e8a167a1e21cc9aeb5ece518b6a0f6b15ed2fc9", func := "pandect/pandectlaw39.ToposortImplied", spec := "toposortImplied", unfollowed := true, recurses := true, apart := false, narrowed := true }
def ToposortImpliedUptoSaid : Prop := toposortImpliedUptoRow.holds Try.pinned (OpenSpec.upto toposortImpliedSpec)

/-- 'pandectlaw39.ToposortAddPair', WHERE WHAT IT READS IS OF BULK AT MOST 1048576: true; the input reads as it did. -/
def toposortAddPairUptoRow : OpenClaim := { program := "ytjibdljdkgedcaa", sum := "143a2deec2219876604ad5598e8a167a1e21cc9aeb5ece518b6a0f6b15ed2fc9", func := "pandect/pandectlaw39.ToposortAddPair", spec := "toposortAddPair", unfollowed := true, recurses := true, apart := false, narrowed := true }
def ToposortAddPairUptoSaid : Prop := toposortAddPairUptoRow.holds Try.pinned (OpenSpec.upto toposortAddPairSpec)

/-- 'pandectlaw39.ToposortRespects', WHERE WHAT IT READS IS OF BULK AT MOST 1048576: true; the input reads as it did. -/
def toposortRespectsUptoRow : OpenClaim := { program := "ytjibdljdkgedcaa", sum := "143a2deec2219876604ad5598e8a167a1e21cc9aeb5ece518b6a0f6b15ed2fc9", func := "pandect/pandectlaw39.ToposortRespects", spec := "toposortRespects", unfollowed := true, recurses := true, apart := false, narrowed := true }
def ToposortRespectsUptoSaid : Prop := toposortRespectsUptoRow.holds Try.pinned (OpenSpec.upto toposortRespectsSpec)

end Rows
end Go.Proofs.Ytjibdljdkgedcaa
