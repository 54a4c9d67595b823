/-
  NARROWER THAN 'FOR EVERY INPUT', by the rows' own cells (each row's printed sentence says how): PtreeNew: loops, laid · PtreeUpdates: loops, laid · PtreeNewNodes: loops, laid · PtreeBranches: loops, laid · PtreeSharing: loops, laid · PtreeTreeedit: loops, laid.
  DERIVED. THE GIVEN ROWS OF THIS SEAT. 6 by the template 'for every input the law returns true; each argument reads behind the call as it read before'; 0 by the template 'total and deterministic' (their statements: YtmnabhhdiinfaaaGreatDoorTotals.lean).
  GIVEN WITH THE SEED: the statements are not yours to turn. If you find one false, say at which input.
  Laid BY PROGRAM, IN A SANDBOX (cutbox-rows.mjs): the forced cells as the released guide's own fill.sh prints them over the translation 8ef057fb4eec7006… (all of the seat's roots in one cut). By AI agents, Wed Nov 11 2026. No macro, syntax, notation, axiom, sorry.
-/
import Derived.Test.YtmnabhhdiinfaaaGreatDoorChecked
import GoSem.Claim
import GoSem.ClaimJoined
import GoSem.ClaimMapViews
import Derived.JoinedTies
import Derived.KernelRfl
namespace Go.Proofs.YtmnabhhdiinfaaaGreatDoor
/- THE CELL 'sum', in the pinned program and in every row, IS THE sha256 OF THE DUMP (.gsa) THAT YtmnabhhdiinfaaaGreatDoorProg.lean LOADS. Nothing in Lean hashes anything: it is a label: what it is worth is what the hold of that sum in a sandbox is worth. -/
noncomputable def Tryz.pinned : Pinned := { name := "ytmnabhhdiinfaaagreatdoor", sum := "8ef057fb4eec700620bbe9ca10212057dda2cb311687e2894aebb640d59430a1", checked := Tryz.checked }
namespace Rows
def none {H : Type} : Left H := { results := [], args := [] }

/- WHAT THE LISTED PACKAGE-LEVEL VARIABLES READ AS WHEN THE CALL BEGINS. Each datum BY PROGRAM (the guide's laid-datum.mjs) off the statement by which the dump's own 'gosem.cut.vars' lays the variable. In a bare row this is a premise. The card (YtmnabhhdiinfaaaGreatDoorCards.lean) ties it to the program's text. -/
def laid_pandect_unit_names {H : Type} : DataW H := .agg [.lit (.string [98, 111, 111, 107]), .lit (.string [112, 97, 114, 116]), .lit (.string [115, 101, 99, 116, 105, 111, 110]), .lit (.string [112, 97, 114, 97, 103, 114, 97, 112, 104]), .lit (.string [116, 97, 98, 108, 101]), .lit (.string [114, 111, 119]), .lit (.string [99, 101, 108, 108]), .lit (.string [110, 111, 116, 101])]
def laid_pandect_unit_below {H : Type} : DataW H := .agg [.slice [.lit (.int .i64 1), .lit (.int .i64 2)] [], .slice [.lit (.int .i64 2)] [], .slice [.lit (.int .i64 3), .lit (.int .i64 4), .lit (.int .i64 7)] [], .slice [.lit (.int .i64 3), .lit (.int .i64 4), .lit (.int .i64 7)] [], .slice [.lit (.int .i64 5)] [], .slice [.lit (.int .i64 6)] [], .nil, .nil]

/-- 'pandectlaw15.PtreeNew': WHATEVER THE INPUT: true; the input reads as it did. -/
def ptreeNewSpec : ChangeSpec := { name := "ptreeNew", fn := fun _ => fun
  | [d1, d2] => { results := [.lit (.bool true)], args := [d1, d2] }
  | _ => none }
def ptreeNewRow : OpenClaim := { program := "ytmnabhhdiinfaaagreatdoor", sum := "8ef057fb4eec700620bbe9ca10212057dda2cb311687e2894aebb640d59430a1", func := "pandect/pandectlaw15.PtreeNew", spec := "ptreeNew", unfollowed := true, recurses := true, named := ["pandect/unit.names", "pandect/unit.below"], loops := true, plainKeys := false, apart := false, laid := [("pandect/unit.names", laid_pandect_unit_names), ("pandect/unit.below", laid_pandect_unit_below)] }
def PtreeNewSaid : Prop := ptreeNewRow.holds Tryz.pinned (OpenSpec.ofChange ptreeNewSpec)

/-- ITS FALSE NEIGHBOUR: 'it returns false'. Refute it at one input. -/
def ptreeNewWrong : ChangeSpec := { name := "ptreeNew", fn := fun _ => fun
  | [d1, d2] => { results := [.lit (.bool false)], args := [d1, d2] }
  | _ => none }
def PtreeNewWrongFalsely : Prop := ptreeNewRow.holds Tryz.pinned (OpenSpec.ofChange ptreeNewWrong)

/-- 'pandectlaw15.PtreeUpdates': WHATEVER THE INPUT: true; the input reads as it did. -/
def ptreeUpdatesSpec : ChangeSpec := { name := "ptreeUpdates", fn := fun _ => fun
  | [d1, d2] => { results := [.lit (.bool true)], args := [d1, d2] }
  | _ => none }
def ptreeUpdatesRow : OpenClaim := { program := "ytmnabhhdiinfaaagreatdoor", sum := "8ef057fb4eec700620bbe9ca10212057dda2cb311687e2894aebb640d59430a1", func := "pandect/pandectlaw15.PtreeUpdates", spec := "ptreeUpdates", inPlace := ["slices.overlaps[pandect/api.Unit]", "slices.overlaps[*pandect/ptree.node]"], unfollowed := true, recurses := true, named := ["pandect/unit.names", "pandect/unit.below"], loops := true, plainKeys := false, apart := false, laid := [("pandect/unit.names", laid_pandect_unit_names), ("pandect/unit.below", laid_pandect_unit_below)] }
def PtreeUpdatesSaid : Prop := ptreeUpdatesRow.holds Tryz.pinned (OpenSpec.ofChange ptreeUpdatesSpec)

/-- ITS FALSE NEIGHBOUR: 'it returns false'. Refute it at one input. -/
def ptreeUpdatesWrong : ChangeSpec := { name := "ptreeUpdates", fn := fun _ => fun
  | [d1, d2] => { results := [.lit (.bool false)], args := [d1, d2] }
  | _ => none }
def PtreeUpdatesWrongFalsely : Prop := ptreeUpdatesRow.holds Tryz.pinned (OpenSpec.ofChange ptreeUpdatesWrong)

/-- 'pandectlaw15.PtreeNewNodes': WHATEVER THE INPUT: true; the input reads as it did. -/
def ptreeNewNodesSpec : ChangeSpec := { name := "ptreeNewNodes", fn := fun _ => fun
  | [d1, d2] => { results := [.lit (.bool true)], args := [d1, d2] }
  | _ => none }
def ptreeNewNodesRow : OpenClaim := { program := "ytmnabhhdiinfaaagreatdoor", sum := "8ef057fb4eec700620bbe9ca10212057dda2cb311687e2894aebb640d59430a1", func := "pandect/pandectlaw15.PtreeNewNodes", spec := "ptreeNewNodes", inPlace := ["slices.overlaps[pandect/api.Unit]", "slices.overlaps[*pandect/ptree.node]"], unfollowed := true, recurses := true, named := ["pandect/unit.names", "pandect/unit.below"], loops := true, plainKeys := false, apart := false, laid := [("pandect/unit.names", laid_pandect_unit_names), ("pandect/unit.below", laid_pandect_unit_below)] }
def PtreeNewNodesSaid : Prop := ptreeNewNodesRow.holds Tryz.pinned (OpenSpec.ofChange ptreeNewNodesSpec)

/-- ITS FALSE NEIGHBOUR: 'it returns false'. Refute it at one input. -/
def ptreeNewNodesWrong : ChangeSpec := { name := "ptreeNewNodes", fn := fun _ => fun
  | [d1, d2] => { results := [.lit (.bool false)], args := [d1, d2] }
  | _ => none }
def PtreeNewNodesWrongFalsely : Prop := ptreeNewNodesRow.holds Tryz.pinned (OpenSpec.ofChange ptreeNewNodesWrong)

/-- 'pandectlaw15.PtreeBranches': WHATEVER THE INPUT: true; the input reads as it did. -/
def ptreeBranchesSpec : ChangeSpec := { name := "ptreeBranches", fn := fun _ => fun
  | [d1, d2, d3] => { results := [.lit (.bool true)], args := [d1, d2, d3] }
  | _ => none }
def ptreeBranchesRow : OpenClaim := { program := "ytmnabhhdiinfaaagreatdoor", sum := "8ef057fb4eec700620bbe9ca10212057dda2cb311687e2894aebb640d59430a1", func := "pandect/pandectlaw15.PtreeBranches", spec := "ptreeBranches", inPlace := ["slices.overlaps[pandect/api.Unit]", "slices.overlaps[*pandect/ptree.node]"], unfollowed := true, recurses := true, named := ["pandect/unit.names", "pandect/unit.below"], loops := true, plainKeys := false, apart := false, laid := [("pandect/unit.names", laid_pandect_unit_names), ("pandect/unit.below", laid_pandect_unit_below)] }
def PtreeBranchesSaid : Prop := ptreeBranchesRow.holds Tryz.pinned (OpenSpec.ofChange ptreeBranchesSpec)

/-- ITS FALSE NEIGHBOUR: 'it returns false'. Refute it at one input. -/
def ptreeBranchesWrong : ChangeSpec := { name := "ptreeBranches", fn := fun _ => fun
  | [d1, d2, d3] => { results := [.lit (.bool false)], args := [d1, d2, d3] }
  | _ => none }
def PtreeBranchesWrongFalsely : Prop := ptreeBranchesRow.holds Tryz.pinned (OpenSpec.ofChange ptreeBranchesWrong)

/-- 'pandectlaw15.PtreeSharing': WHATEVER THE INPUT: true; the input reads as it did. -/
def ptreeSharingSpec : ChangeSpec := { name := "ptreeSharing", fn := fun _ => fun
  | [d1, d2] => { results := [.lit (.bool true)], args := [d1, d2] }
  | _ => none }
def ptreeSharingRow : OpenClaim := { program := "ytmnabhhdiinfaaagreatdoor", sum := "8ef057fb4eec700620bbe9ca10212057dda2cb311687e2894aebb640d59430a1", func := "pandect/pandectlaw15.PtreeSharing", spec := "ptreeSharing", inPlace := ["slices.overlaps[pandect/api.Unit]", "slices.overlaps[*pandect/ptree.node]"], unfollowed := true, recurses := true, named := ["pandect/unit.names", "pandect/unit.below"], loops := true, plainKeys := false, apart := false, laid := [("pandect/unit.names", laid_pandect_unit_names), ("pandect/unit.below", laid_pandect_unit_below)] }
def PtreeSharingSaid : Prop := ptreeSharingRow.holds Tryz.pinned (OpenSpec.ofChange ptreeSharingSpec)

/-- ITS FALSE NEIGHBOUR: 'it returns false'. Refute it at one input. -/
def ptreeSharingWrong : ChangeSpec := { name := "ptreeSharing", fn := fun _ => fun
  | [d1, d2] => { results := [.lit (.bool false)], args := [d1, d2] }
  | _ => none }
def PtreeSharingWrongFalsely : Prop := ptreeSharingRow.holds Tryz.pinned (OpenSpec.ofChange ptreeSharingWrong)

/-- 'pandectlaw15.PtreeTreeedit': WHATEVER THE INPUT: true; the input reads as it did. -/
def ptreeTreeeditSpec : ChangeSpec := { name := "ptreeTreeedit", fn := fun _ => fun
  | [d1, d2] => { results := [.lit (.bool true)], args := [d1, d2] }
  | _ => none }
def ptreeTreeeditRow : OpenClaim := { program := "ytmnabhhdiinfaaagreatdoor", sum := "8ef057fb4eec700620bbe9ca10212057dda2cb311687e2894aebb640d59430a1", func := "pandect/pandectlaw15.PtreeTreeedit", spec := "ptreeTreeedit", inPlace := ["slices.overlaps[pandect/api.Unit]", "slices.overlaps[*pandect/ptree.node]"], unfollowed := true, recurses := true, named := ["pandect/unit.names", "pandect/unit.below"], loops := true, plainKeys := false, apart := false, laid := [("pandect/unit.names", laid_pandect_unit_names), ("pandect/unit.below", laid_pandect_unit_below)] }
def PtreeTreeeditSaid : Prop := ptreeTreeeditRow.holds Tryz.pinned (OpenSpec.ofChange ptreeTreeeditSpec)

/-- ITS FALSE NEIGHBOUR: 'it returns false'. Refute it at one input. -/
def ptreeTreeeditWrong : ChangeSpec := { name := "ptreeTreeedit", fn := fun _ => fun
  | [d1, d2] => { results := [.lit (.bool false)], args := [d1, d2] }
  | _ => none }
def PtreeTreeeditWrongFalsely : Prop := ptreeTreeeditRow.holds Tryz.pinned (OpenSpec.ofChange ptreeTreeeditWrong)

/- THE SECOND FORM. 'bulk': how many values and letters a reading holds, each counted each time it is reached (what is shared counts as often as it is met; a slice's spare places count too). A statement '..UptoSaid' is the law's where the arguments, and the package variables that the reading takes, are together of bulk at most 1048576: NARROWER than '..Said'. Prove '..Said' where nothing that the law and all that it calls make is longer than what came in: it says more and counts as full. Else prove '..UptoSaid'. A law counts once. -/
mutual
def uptoBulk {H : Type} : DataW H → Nat
  | .lit (.string bytes) => bytes.length + 1
  | .lit _ => 1
  | .nil => 1
  | .ptr d => uptoBulk d + 1
  | .slice elems spare => uptoBulkAll elems + uptoBulkAll spare + 1
  | .agg parts => uptoBulkAll parts + 1
  | .iface _ d => uptoBulk d + 1
  | .map entries => uptoBulkEntries entries + 1
  | .held _ => 1
def uptoBulkAll {H : Type} : List (DataW H) → Nat
  | [] => 0
  | d :: r => uptoBulk d + uptoBulkAll r
def uptoBulkEntries {H : Type} : List (Lit × DataW H) → Nat
  | [] => 0
  | x :: r => uptoBulkEntry x + uptoBulkEntries r
def uptoBulkEntry {H : Type} : Lit × DataW H → Nat
  | (.string bytes, d) => bytes.length + uptoBulk d + 1
  | (_, d) => uptoBulk d + 1
 end
def uptoSmall : (H : Type) → List (DataW H) → Bool := fun _ ds => decide (uptoBulkAll ds ≤ 1048576)
def OpenSpec.upto (s : _root_.Go.ChangeSpec) : _root_.Go.OpenSpec := { _root_.Go.OpenSpec.ofChange s with cond := some uptoSmall }

/-- 'pandectlaw15.PtreeNew', WHERE WHAT IT READS IS OF BULK AT MOST 1048576: true; the input reads as it did. -/
def ptreeNewUptoRow : OpenClaim := { program := "ytmnabhhdiinfaaagreatdoor", sum := "8ef057fb4eec700620bbe9ca10212057dda2cb311687e2894aebb640d59430a1", func := "pandect/pandectlaw15.PtreeNew", spec := "ptreeNew", unfollowed := true, recurses := true, named := ["pandect/unit.names", "pandect/unit.below"], loops := true, plainKeys := false, apart := false, laid := [("pandect/unit.names", laid_pandect_unit_names), ("pandect/unit.below", laid_pandect_unit_below)], narrowed := true }
def PtreeNewUptoSaid : Prop := ptreeNewUptoRow.holds Tryz.pinned (OpenSpec.upto ptreeNewSpec)

/-- 'pandectlaw15.PtreeUpdates', WHERE WHAT IT READS IS OF BULK AT MOST 1048576: true; the input reads as it did. -/
def ptreeUpdatesUptoRow : OpenClaim := { program := "ytmnabhhdiinfaaagreatdoor", sum := "8ef057fb4eec700620bbe9ca10212057dda2cb311687e2894aebb640d59430a1", func := "pandect/pandectlaw15.PtreeUpdates", spec := "ptreeUpdates", inPlace := ["slices.overlaps[pandect/api.Unit]", "slices.overlaps[*pandect/ptree.node]"], unfollowed := true, recurses := true, named := ["pandect/unit.names", "pandect/unit.below"], loops := true, plainKeys := false, apart := false, laid := [("pandect/unit.names", laid_pandect_unit_names), ("pandect/unit.below", laid_pandect_unit_below)], narrowed := true }
def PtreeUpdatesUptoSaid : Prop := ptreeUpdatesUptoRow.holds Tryz.pinned (OpenSpec.upto ptreeUpdatesSpec)

/-- 'pandectlaw15.PtreeNewNodes', WHERE WHAT IT READS IS OF BULK AT MOST 1048576: true; the input reads as it did. -/
def ptreeNewNodesUptoRow : OpenClaim := { program := "ytmnabhhdiinfaaagreatdoor", sum := "8ef057fb4eec700620bbe9ca10212057dda2cb311687e2894aebb640d59430a1", func := "pandect/pandectlaw15.PtreeNewNodes", spec := "ptreeNewNodes", inPlace := ["slices.overlaps[pandect/api.Unit]", "slices.overlaps[*pandect/ptree.node]"], unfollowed := true, recurses := true, named := ["pandect/unit.names", "pandect/unit.below"], loops := true, plainKeys := false, apart := false, laid := [("pandect/unit.names", laid_pandect_unit_names), ("pandect/unit.below", laid_pandect_unit_below)], narrowed := true }
def PtreeNewNodesUptoSaid : Prop := ptreeNewNodesUptoRow.holds Tryz.pinned (OpenSpec.upto ptreeNewNodesSpec)

/-- 'pandectlaw15.PtreeBranches', WHERE WHAT IT READS IS OF BULK AT MOST 1048576: true; the input reads as it did. -/
def ptreeBranchesUptoRow : OpenClaim := { program := "ytmnabhhdiinfaaagreatdoor", sum := "8ef057fb4eec700620bbe9ca10212057dda2cb311687e2894aebb640d59430a1", func := "pandect/pandectlaw15.PtreeBranches", spec := "ptreeBranches", inPlace := ["slices.overlaps[pandect/api.Unit]", "slices.overlaps[*pandect/ptree.node]"], unfollowed := true, recurses := true, named := ["pandect/unit.names", "pandect/unit.below"], loops := true, plainKeys := false, apart := false, laid := [("pandect/unit.names", laid_pandect_unit_names), ("pandect/unit.below", laid_pandect_unit_below)], narrowed := true }
def PtreeBranchesUptoSaid : Prop := ptreeBranchesUptoRow.holds Tryz.pinned (OpenSpec.upto ptreeBranchesSpec)

/-- 'pandectlaw15.PtreeSharing', WHERE WHAT IT READS IS OF BULK AT MOST 1048576: true; the input reads as it did. -/
def ptreeSharingUptoRow : OpenClaim := { program := "ytmnabhhdiinfaaagreatdoor", sum := "8ef057fb4eec700620bbe9ca10212057dda2cb311687e2894aebb640d59430a1", func := "pandect/pandectlaw15.PtreeSharing", spec := "ptreeSharing", inPlace := ["slices.overlaps[pandect/api.Unit]", "slices.overlaps[*pandect/ptree.node]"], unfollowed := true, recurses := true, named := ["pandect/unit.names", "pandect/unit.below"], loops := true, plainKeys := false, apart := false, laid := [("pandect/unit.names", laid_pandect_unit_names), ("pandect/unit.below", laid_pandect_unit_below)], narrowed := true }
def PtreeSharingUptoSaid : Prop := ptreeSharingUptoRow.holds Tryz.pinned (OpenSpec.upto ptreeSharingSpec)

/-- 'pandectlaw15.PtreeTreeedit', WHERE WHAT IT READS IS OF BULK AT MOST 1048576: true; the input reads as it did. -/
def ptreeTreeeditUptoRow : OpenClaim := { program := "ytmnabhhdiinfaaagreatdoor", sum := "8ef057fb4eec700620bbe9ca10212057dda2cb311687e2894aebb640d59430a1", func := "pandect/pandectlaw15.PtreeTreeedit", spec := "ptreeTreeedit", inPlace := ["slices.overlaps[pandect/api.Unit]", "slices.overlaps[*pandect/ptree.node]"], unfollowed := true, recurses := true, named := ["pandect/unit.names", "pandect/unit.below"], loops := true, plainKeys := false, apart := false, laid := [("pandect/unit.names", laid_pandect_unit_names), ("pandect/unit.below", laid_pandect_unit_below)], narrowed := true }
def PtreeTreeeditUptoSaid : Prop := ptreeTreeeditUptoRow.holds Tryz.pinned (OpenSpec.upto ptreeTreeeditSpec)

end Rows
end Go.Proofs.YtmnabhhdiinfaaaGreatDoor
