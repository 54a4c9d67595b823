/-
  NARROWER THAN 'FOR EVERY INPUT', by the rows' own cells (each row's printed sentence says how): RedlineNodes: loops, laid · RedlineCounts: loops, laid · RedlineSequence: loops, laid.
  DERIVED. THE GIVEN ROWS OF THIS SEAT. 3 by the template 'for every input the law returns true; each argument reads behind the call as it read before'; 0 by the template 'total and deterministic' (their statements: YtfechgagcgbldaaDoorTotals.lean).
  GIVEN WITH THE SEED: the statements are not yours to turn. If you find one false, say at which input.
  Laid BY PROGRAM, IN A SANDBOX (cutbox-rows.mjs): the forced cells as the released guide's own fill.sh prints them over the translation 0a50f4a183396f13… (all of the seat's roots in one cut). By AI agents, Wed Nov 11 2026. No macro, syntax, notation, axiom, sorry.
-/
import Derived.Test.YtfechgagcgbldaaDoorChecked
import GoSem.Claim
import GoSem.ClaimJoined
import GoSem.ClaimMapViews
import Derived.JoinedTies
import Derived.KernelRfl
namespace Go.Proofs.YtfechgagcgbldaaDoor
/- THE CELL 'sum', in the pinned program and in every row, IS THE sha256 OF THE DUMP (.gsa) THAT YtfechgagcgbldaaDoorProg.lean LOADS. Nothing in Lean hashes anything: it is a label: what it is worth is what the hold of that sum in a sandbox is worth. -/
noncomputable def Tryd.pinned : Pinned := { name := "ytfechgagcgbldaadoor", sum := "0a50f4a183396f13a16af695255f172da7c555ba51ece21909655076a636972b", checked := Tryd.checked }
namespace Rows
def none {H : Type} : Left H := { results := [], args := [] }

/- WHAT THE LISTED PACKAGE-LEVEL VARIABLES READ AS WHEN THE CALL BEGINS. Each datum BY PROGRAM (the guide's laid-datum.mjs) off the statement by which the dump's own 'gosem.cut.vars' lays the variable. In a bare row this is a premise. The card (YtfechgagcgbldaaDoorCards.lean) ties it to the program's text. -/
def laid_pandect_unit_names {H : Type} : DataW H := .agg [.lit (.string [98, 111, 111, 107]), .lit (.string [112, 97, 114, 116]), .lit (.string [115, 101, 99, 116, 105, 111, 110]), .lit (.string [112, 97, 114, 97, 103, 114, 97, 112, 104]), .lit (.string [116, 97, 98, 108, 101]), .lit (.string [114, 111, 119]), .lit (.string [99, 101, 108, 108]), .lit (.string [110, 111, 116, 101])]
def laid_pandect_unit_below {H : Type} : DataW H := .agg [.slice [.lit (.int .i64 1), .lit (.int .i64 2)] [], .slice [.lit (.int .i64 2)] [], .slice [.lit (.int .i64 3), .lit (.int .i64 4), .lit (.int .i64 7)] [], .slice [.lit (.int .i64 3), .lit (.int .i64 4), .lit (.int .i64 7)] [], .slice [.lit (.int .i64 5)] [], .slice [.lit (.int .i64 6)] [], .nil, .nil]

/-- 'pandectlaw50.RedlineNodes': WHATEVER THE INPUT: true; the input reads as it did. -/
def redlineNodesSpec : ChangeSpec := { name := "redlineNodes", fn := fun _ => fun
  | [d1, d2] => { results := [.lit (.bool true)], args := [d1, d2] }
  | _ => none }
def redlineNodesRow : OpenClaim := { program := "ytfechgagcgbldaadoor", sum := "0a50f4a183396f13a16af695255f172da7c555ba51ece21909655076a636972b", func := "pandect/pandectlaw50.RedlineNodes", spec := "redlineNodes", unfollowed := true, recurses := true, named := ["pandect/unit.names", "pandect/unit.below"], loops := true, plainKeys := false, apart := false, laid := [("pandect/unit.names", laid_pandect_unit_names), ("pandect/unit.below", laid_pandect_unit_below)] }
def RedlineNodesSaid : Prop := redlineNodesRow.holds Tryd.pinned (OpenSpec.ofChange redlineNodesSpec)

/-- ITS FALSE NEIGHBOUR: 'it returns false'. Refute it at one input. -/
def redlineNodesWrong : ChangeSpec := { name := "redlineNodes", fn := fun _ => fun
  | [d1, d2] => { results := [.lit (.bool false)], args := [d1, d2] }
  | _ => none }
def RedlineNodesWrongFalsely : Prop := redlineNodesRow.holds Tryd.pinned (OpenSpec.ofChange redlineNodesWrong)

/-- 'pandectlaw50.RedlineCounts': WHATEVER THE INPUT: true; the input reads as it did. -/
def redlineCountsSpec : ChangeSpec := { name := "redlineCounts", fn := fun _ => fun
  | [d1, d2] => { results := [.lit (.bool true)], args := [d1, d2] }
  | _ => none }
def redlineCountsRow : OpenClaim := { program := "ytfechgagcgbldaadoor", sum := "0a50f4a183396f13a16af695255f172da7c555ba51ece21909655076a636972b", func := "pandect/pandectlaw50.RedlineCounts", spec := "redlineCounts", unfollowed := true, recurses := true, named := ["pandect/unit.names", "pandect/unit.below"], loops := true, plainKeys := false, apart := false, laid := [("pandect/unit.names", laid_pandect_unit_names), ("pandect/unit.below", laid_pandect_unit_below)] }
def RedlineCountsSaid : Prop := redlineCountsRow.holds Tryd.pinned (OpenSpec.ofChange redlineCountsSpec)

/-- ITS FALSE NEIGHBOUR: 'it returns false'. Refute it at one input. -/
def redlineCountsWrong : ChangeSpec := { name := "redlineCounts", fn := fun _ => fun
  | [d1, d2] => { results := [.lit (.bool false)], args := [d1, d2] }
  | _ => none }
def RedlineCountsWrongFalsely : Prop := redlineCountsRow.holds Tryd.pinned (OpenSpec.ofChange redlineCountsWrong)

/-- 'pandectlaw50.RedlineSequence': WHATEVER THE INPUT: true; the input reads as it did. -/
def redlineSequenceSpec : ChangeSpec := { name := "redlineSequence", fn := fun _ => fun
  | [d1, d2, d3] => { results := [.lit (.bool true)], args := [d1, d2, d3] }
  | _ => none }
def redlineSequenceRow : OpenClaim := { program := "ytfechgagcgbldaadoor", sum := "0a50f4a183396f13a16af695255f172da7c555ba51ece21909655076a636972b", func := "pandect/pandectlaw50.RedlineSequence", spec := "redlineSequence", unfollowed := true, recurses := true, named := ["pandect/unit.names", "pandect/unit.below"], loops := true, plainKeys := false, apart := false, laid := [("pandect/unit.names", laid_pandect_unit_names), ("pandect/unit.below", laid_pandect_unit_below)] }
def RedlineSequenceSaid : Prop := redlineSequenceRow.holds Tryd.pinned (OpenSpec.ofChange redlineSequenceSpec)

/-- ITS FALSE NEIGHBOUR: 'it returns false'. Refute it at one input. -/
def redlineSequenceWrong : ChangeSpec := { name := "redlineSequence", fn := fun _ => fun
  | [d1, d2, d3] => { results := [.lit (.bool false)], args := [d1, d2, d3] }
  | _ => none }
def RedlineSequenceWrongFalsely : Prop := redlineSequenceRow.holds Tryd.pinned (OpenSpec.ofChange redlineSequenceWrong)

/- THE SECOND FORM. 'bulk': how many values and letters a reading holds, each counted each time it is reached (what is shared counts as often as it is met; a slice's spare places count too). A statement '..UptoSaid' is the law's where the arguments, and the package variables that the reading takes, are together of bulk at most 1048576: NARROWER than '..Said'. Prove '..Said' where nothing that the law and all that it calls make is longer than what came in: it says more and counts as full. Else prove '..UptoSaid'. A law counts once. -/
mutual
def uptoBulk {H : Type} : DataW H → Nat
  | .lit (.string bytes) => bytes.length + 1
  | .lit _ => 1
  | .nil => 1
  | .ptr d => uptoBulk d + 1
  | .slice elems spare => uptoBulkAll elems + uptoBulkAll spare + 1
  | .agg parts => uptoBulkAll parts + 1
  | .iface _ d => uptoBulk d + 1
  | .map entries => uptoBulkEntries entries + 1
  | .held _ => 1
def uptoBulkAll {H : Type} : List (DataW H) → Nat
  | [] => 0
  | d :: r => uptoBulk d + uptoBulkAll r
def uptoBulkEntries {H : Type} : List (Lit × DataW H) → Nat
  | [] => 0
  | x :: r => uptoBulkEntry x + uptoBulkEntries r
def uptoBulkEntry {H : Type} : Lit × DataW H → Nat
  | (.string bytes, d) => bytes.length + uptoBulk d + 1
  | (_, d) => uptoBulk d + 1
 end
def uptoSmall : (H : Type) → List (DataW H) → Bool := fun _ ds => decide (uptoBulkAll ds ≤ 1048576)
def OpenSpec.upto (s : _root_.Go.ChangeSpec) : _root_.Go.OpenSpec := { _root_.Go.OpenSpec.ofChange s with cond := some uptoSmall }

/-- 'pandectlaw50.RedlineNodes', WHERE WHAT IT READS IS OF BULK AT MOST 1048576: true; the input reads as it did. -/
def redlineNodesUptoRow : OpenClaim := { program := "ytfechgagcgbldaadoor", sum := "0a50f4a183396f13a16af695255f172da7c555ba51ece21909655076a636972b", func := "pandect/pandectlaw50.RedlineNodes", spec := "redlineNodes", unfollowed := true, recurses := true, named := ["pandect/unit.names", "pandect/unit.below"], loops := true, plainKeys := false, apart := false, laid := [("pandect/unit.names", laid_pandect_unit_names), ("pandect/unit.below", laid_pandect_unit_below)], narrowed := true }
def RedlineNodesUptoSaid : Prop := redlineNodesUptoRow.holds Tryd.pinned (OpenSpec.upto redlineNodesSpec)

/-- 'pandectlaw50.RedlineCounts', WHERE WHAT IT READS IS OF BULK AT MOST 1048576: true; the input reads as it did. -/
def redlineCountsUptoRow : OpenClaim := { program := "ytfechgagcgbldaadoor", sum := "0a50f4a183396f13a16af695255f172da7c555ba51ece21909655076a636972b", func := "pandect/pandectlaw50.RedlineCounts", spec := "redlineCounts", unfollowed := true, recurses := true, named := ["pandect/unit.names", "pandect/unit.below"], loops := true, plainKeys := false, apart := false, laid := [("pandect/unit.names", laid_pandect_unit_names), ("pandect/unit.below", laid_pandect_unit_below)], narrowed := true }
def RedlineCountsUptoSaid : Prop := redlineCountsUptoRow.holds Tryd.pinned (OpenSpec.upto redlineCountsSpec)

/-- 'pandectlaw50.RedlineSequence', WHERE WHAT IT READS IS OF BULK AT MOST 1048576: true; the input reads as it did. -/
def redlineSequenceUptoRow : OpenClaim := { program := "ytfechgagcgbldaadoor", sum := "0a50f4a183396f13a16af695255f172da7c555ba51ece21909655076a636972b", func := "pandect/pandectlaw50.RedlineSequence", spec := "redlineSequence", unfollowed := true, recurses := true, named := ["pandect/unit.names", "pandect/unit.below"], loops := true, plainKeys := false, apart := false, laid := [("pandect/unit.names", laid_pandect_unit_names), ("pandect/unit.below", laid_pandect_unit_below)], narrowed := true }
def RedlineSequenceUptoSaid : Prop := redlineSequenceUptoRow.holds Tryd.pinned (OpenSpec.upto redlineSequenceSpec)

end Rows
end Go.Proofs.YtfechgagcgbldaaDoor
