/-
  NARROWER THAN 'FOR EVERY INPUT', by the rows' own cells (each row's printed sentence says how): EditorMarks: loops, laid · EditorUndoAll: loops, laid · EditorStands: loops, laid · EditorOpen: loops, laid · EditorSession: loops, laid · EditorReplay: loops, laid · EditorClone: loops, laid.
  DERIVED. THE GIVEN ROWS OF THIS SEAT. 7 by the template 'for every input the law returns true; each argument reads behind the call as it read before'; 0 by the template 'total and deterministic' (their statements: YtlfohdkfpdkhhaaGreatDoorTotals.lean).
  GIVEN WITH THE SEED: the statements are not yours to turn. If you find one false, say at which input.
  Laid BY PROGRAM, IN A SANDBOX (cutbox-rows.mjs): the forced cells as the released guide's own fill.sh prints them over the translation 29dd31c6744e7ce1… (all of the seat's roots in one cut). By AI agents, Wed Nov 11 2026. No macro, syntax, notation, axiom, sorry.
-/
import Derived.Test.YtlfohdkfpdkhhaaGreatDoorChecked
import GoSem.Claim
import GoSem.ClaimJoined
import GoSem.ClaimMapViews
import Derived.JoinedTies
import Derived.KernelRfl
namespace Go.Proofs.YtlfohdkfpdkhhaaGreatDoor
/- THE CELL 'sum', in the pinned program and in every row, IS THE sha256 OF THE DUMP (.gsa) THAT YtlfohdkfpdkhhaaGreatDoorProg.lean LOADS. Nothing in Lean hashes anything: it is a label: what it is worth is what the hold of that sum in a sandbox is worth. -/
noncomputable def Tryz.pinned : Pinned := { name := "ytlfohdkfpdkhhaagreatdoor", sum := "29dd31c6744e7ce1076b3f3aab0976ecf2045a6de06005bfcf57fbbe1a61efd0", checked := Tryz.checked }
namespace Rows
def none {H : Type} : Left H := { results := [], args := [] }

/- WHAT THE LISTED PACKAGE-LEVEL VARIABLES READ AS WHEN THE CALL BEGINS. Each datum BY PROGRAM (the guide's laid-datum.mjs) off the statement by which the dump's own 'gosem.cut.vars' lays the variable. In a bare row this is a premise. The card (YtlfohdkfpdkhhaaGreatDoorCards.lean) ties it to the program's text. -/
def laid_pandect_unit_names {H : Type} : DataW H := .agg [.lit (.string [98, 111, 111, 107]), .lit (.string [112, 97, 114, 116]), .lit (.string [115, 101, 99, 116, 105, 111, 110]), .lit (.string [112, 97, 114, 97, 103, 114, 97, 112, 104]), .lit (.string [116, 97, 98, 108, 101]), .lit (.string [114, 111, 119]), .lit (.string [99, 101, 108, 108]), .lit (.string [110, 111, 116, 101])]
def laid_pandect_unit_below {H : Type} : DataW H := .agg [.slice [.lit (.int .i64 1), .lit (.int .i64 2)] [], .slice [.lit (.int .i64 2)] [], .slice [.lit (.int .i64 3), .lit (.int .i64 4), .lit (.int .i64 7)] [], .slice [.lit (.int .i64 3), .lit (.int .i64 4), .lit (.int .i64 7)] [], .slice [.lit (.int .i64 5)] [], .slice [.lit (.int .i64 6)] [], .nil, .nil]

/-- 'pandectlaw51.EditorMarks': WHATEVER THE INPUT: true; the input reads as it did. -/
def editorMarksSpec : ChangeSpec := { name := "editorMarks", fn := fun _ => fun
  | [d1, d2, d3] => { results := [.lit (.bool true)], args := [d1, d2, d3] }
  | _ => none }
def editorMarksRow : OpenClaim := { program := "ytlfohdkfpdkhhaagreatdoor", sum := "29dd31c6744e7ce1076b3f3aab0976ecf2045a6de06005bfcf57fbbe1a61efd0", func := "pandect/pandectlaw51.EditorMarks", spec := "editorMarks", inPlace := ["slices.overlaps[pandect/api.Unit]"], unfollowed := true, recurses := true, named := ["pandect/unit.names", "pandect/unit.below"], loops := true, plainKeys := false, apart := false, laid := [("pandect/unit.names", laid_pandect_unit_names), ("pandect/unit.below", laid_pandect_unit_below)] }
def EditorMarksSaid : Prop := editorMarksRow.holds Tryz.pinned (OpenSpec.ofChange editorMarksSpec)

/-- ITS FALSE NEIGHBOUR: 'it returns false'. Refute it at one input. -/
def editorMarksWrong : ChangeSpec := { name := "editorMarks", fn := fun _ => fun
  | [d1, d2, d3] => { results := [.lit (.bool false)], args := [d1, d2, d3] }
  | _ => none }
def EditorMarksWrongFalsely : Prop := editorMarksRow.holds Tryz.pinned (OpenSpec.ofChange editorMarksWrong)

/-- 'pandectlaw51.EditorUndoAll': WHATEVER THE INPUT: true; the input reads as it did. -/
def editorUndoAllSpec : ChangeSpec := { name := "editorUndoAll", fn := fun _ => fun
  | [d1, d2] => { results := [.lit (.bool true)], args := [d1, d2] }
  | _ => none }
def editorUndoAllRow : OpenClaim := { program := "ytlfohdkfpdkhhaagreatdoor", sum := "29dd31c6744e7ce1076b3f3aab0976ecf2045a6de06005bfcf57fbbe1a61efd0", func := "pandect/pandectlaw51.EditorUndoAll", spec := "editorUndoAll", inPlace := ["slices.overlaps[pandect/api.Unit]"], unfollowed := true, recurses := true, named := ["pandect/unit.names", "pandect/unit.below"], loops := true, plainKeys := false, apart := false, laid := [("pandect/unit.names", laid_pandect_unit_names), ("pandect/unit.below", laid_pandect_unit_below)] }
def EditorUndoAllSaid : Prop := editorUndoAllRow.holds Tryz.pinned (OpenSpec.ofChange editorUndoAllSpec)

/-- ITS FALSE NEIGHBOUR: 'it returns false'. Refute it at one input. -/
def editorUndoAllWrong : ChangeSpec := { name := "editorUndoAll", fn := fun _ => fun
  | [d1, d2] => { results := [.lit (.bool false)], args := [d1, d2] }
  | _ => none }
def EditorUndoAllWrongFalsely : Prop := editorUndoAllRow.holds Tryz.pinned (OpenSpec.ofChange editorUndoAllWrong)

/-- 'pandectlaw51.EditorStands': WHATEVER THE INPUT: true; the input reads as it did. -/
def editorStandsSpec : ChangeSpec := { name := "editorStands", fn := fun _ => fun
  | [d1, d2, d3] => { results := [.lit (.bool true)], args := [d1, d2, d3] }
  | _ => none }
def editorStandsRow : OpenClaim := { program := "ytlfohdkfpdkhhaagreatdoor", sum := "29dd31c6744e7ce1076b3f3aab0976ecf2045a6de06005bfcf57fbbe1a61efd0", func := "pandect/pandectlaw51.EditorStands", spec := "editorStands", inPlace := ["slices.overlaps[pandect/api.Unit]"], unfollowed := true, recurses := true, named := ["pandect/unit.names", "pandect/unit.below"], loops := true, plainKeys := false, apart := false, laid := [("pandect/unit.names", laid_pandect_unit_names), ("pandect/unit.below", laid_pandect_unit_below)] }
def EditorStandsSaid : Prop := editorStandsRow.holds Tryz.pinned (OpenSpec.ofChange editorStandsSpec)

/-- ITS FALSE NEIGHBOUR: 'it returns false'. Refute it at one input. -/
def editorStandsWrong : ChangeSpec := { name := "editorStands", fn := fun _ => fun
  | [d1, d2, d3] => { results := [.lit (.bool false)], args := [d1, d2, d3] }
  | _ => none }
def EditorStandsWrongFalsely : Prop := editorStandsRow.holds Tryz.pinned (OpenSpec.ofChange editorStandsWrong)

/-- 'pandectlaw51.EditorOpen': WHATEVER THE INPUT: true; the input reads as it did. -/
def editorOpenSpec : ChangeSpec := { name := "editorOpen", fn := fun _ => fun
  | [d] => { results := [.lit (.bool true)], args := [d] }
  | _ => none }
def editorOpenRow : OpenClaim := { program := "ytlfohdkfpdkhhaagreatdoor", sum := "29dd31c6744e7ce1076b3f3aab0976ecf2045a6de06005bfcf57fbbe1a61efd0", func := "pandect/pandectlaw51.EditorOpen", spec := "editorOpen", inPlace := ["slices.overlaps[pandect/api.Unit]"], unfollowed := true, recurses := true, named := ["pandect/unit.names", "pandect/unit.below"], loops := true, plainKeys := false, apart := false, laid := [("pandect/unit.names", laid_pandect_unit_names), ("pandect/unit.below", laid_pandect_unit_below)] }
def EditorOpenSaid : Prop := editorOpenRow.holds Tryz.pinned (OpenSpec.ofChange editorOpenSpec)

/-- ITS FALSE NEIGHBOUR: 'it returns false'. Refute it at one input. -/
def editorOpenWrong : ChangeSpec := { name := "editorOpen", fn := fun _ => fun
  | [d] => { results := [.lit (.bool false)], args := [d] }
  | _ => none }
def EditorOpenWrongFalsely : Prop := editorOpenRow.holds Tryz.pinned (OpenSpec.ofChange editorOpenWrong)

/-- 'pandectlaw51.EditorSession': WHATEVER THE INPUT: true; the input reads as it did. -/
def editorSessionSpec : ChangeSpec := { name := "editorSession", fn := fun _ => fun
  | [d1, d2] => { results := [.lit (.bool true)], args := [d1, d2] }
  | _ => none }
def editorSessionRow : OpenClaim := { program := "ytlfohdkfpdkhhaagreatdoor", sum := "29dd31c6744e7ce1076b3f3aab0976ecf2045a6de06005bfcf57fbbe1a61efd0", func := "pandect/pandectlaw51.EditorSession", spec := "editorSession", inPlace := ["slices.overlaps[pandect/api.Unit]"], unfollowed := true, recurses := true, named := ["pandect/unit.names", "pandect/unit.below"], loops := true, plainKeys := false, apart := false, laid := [("pandect/unit.names", laid_pandect_unit_names), ("pandect/unit.below", laid_pandect_unit_below)] }
def EditorSessionSaid : Prop := editorSessionRow.holds Tryz.pinned (OpenSpec.ofChange editorSessionSpec)

/-- ITS FALSE NEIGHBOUR: 'it returns false'. Refute it at one input. -/
def editorSessionWrong : ChangeSpec := { name := "editorSession", fn := fun _ => fun
  | [d1, d2] => { results := [.lit (.bool false)], args := [d1, d2] }
  | _ => none }
def EditorSessionWrongFalsely : Prop := editorSessionRow.holds Tryz.pinned (OpenSpec.ofChange editorSessionWrong)

/-- 'pandectlaw51.EditorReplay': WHATEVER THE INPUT: true; the input reads as it did. -/
def editorReplaySpec : ChangeSpec := { name := "editorReplay", fn := fun _ => fun
  | [d1, d2] => { results := [.lit (.bool true)], args := [d1, d2] }
  | _ => none }
def editorReplayRow : OpenClaim := { program := "ytlfohdkfpdkhhaagreatdoor", sum := "29dd31c6744e7ce1076b3f3aab0976ecf2045a6de06005bfcf57fbbe1a61efd0", func := "pandect/pandectlaw51.EditorReplay", spec := "editorReplay", inPlace := ["slices.overlaps[pandect/api.Unit]"], unfollowed := true, recurses := true, named := ["pandect/unit.names", "pandect/unit.below"], loops := true, plainKeys := false, apart := false, laid := [("pandect/unit.names", laid_pandect_unit_names), ("pandect/unit.below", laid_pandect_unit_below)] }
def EditorReplaySaid : Prop := editorReplayRow.holds Tryz.pinned (OpenSpec.ofChange editorReplaySpec)

/-- ITS FALSE NEIGHBOUR: 'it returns false'. Refute it at one input. -/
def editorReplayWrong : ChangeSpec := { name := "editorReplay", fn := fun _ => fun
  | [d1, d2] => { results := [.lit (.bool false)], args := [d1, d2] }
  | _ => none }
def EditorReplayWrongFalsely : Prop := editorReplayRow.holds Tryz.pinned (OpenSpec.ofChange editorReplayWrong)

/-- 'pandectlaw51.EditorClone': WHATEVER THE INPUT: true; the input reads as it did. -/
def editorCloneSpec : ChangeSpec := { name := "editorClone", fn := fun _ => fun
  | [d1, d2, d3] => { results := [.lit (.bool true)], args := [d1, d2, d3] }
  | _ => none }
def editorCloneRow : OpenClaim := { program := "ytlfohdkfpdkhhaagreatdoor", sum := "29dd31c6744e7ce1076b3f3aab0976ecf2045a6de06005bfcf57fbbe1a61efd0", func := "pandect/pandectlaw51.EditorClone", spec := "editorClone", inPlace := ["slices.overlaps[pandect/api.Unit]"], unfollowed := true, recurses := true, named := ["pandect/unit.names", "pandect/unit.below"], loops := true, plainKeys := false, apart := false, laid := [("pandect/unit.names", laid_pandect_unit_names), ("pandect/unit.below", laid_pandect_unit_below)] }
def EditorCloneSaid : Prop := editorCloneRow.holds Tryz.pinned (OpenSpec.ofChange editorCloneSpec)

/-- ITS FALSE NEIGHBOUR: 'it returns false'. Refute it at one input. -/
def editorCloneWrong : ChangeSpec := { name := "editorClone", fn := fun _ => fun
  | [d1, d2, d3] => { results := [.lit (.bool false)], args := [d1, d2, d3] }
  | _ => none }
def EditorCloneWrongFalsely : Prop := editorCloneRow.holds Tryz.pinned (OpenSpec.ofChange editorCloneWrong)

/- THE SECOND FORM. 'bulk': how many values and letters a reading holds, each counted each time it is reached (what is shared counts as often as it is met; a slice's spare places count too). A statement '..UptoSaid' is the law's where the arguments, and the package variables that the reading takes, are together of bulk at most 1048576: NARROWER than '..Said'. Prove '..Said' where nothing that the law and all that it calls make is longer than what came in: it says more and counts as full. Else prove '..UptoSaid'. A law counts once. -/
mutual
def uptoBulk {H : Type} : DataW H → Nat
  | .lit (.string bytes) => bytes.length + 1
  | .lit _ => 1
  | .nil => 1
  | .ptr d => uptoBulk d + 1
  | .slice elems spare => uptoBulkAll elems + uptoBulkAll spare + 1
  | .agg parts => uptoBulkAll parts + 1
  | .iface _ d => uptoBulk d + 1
  | .map entries => uptoBulkEntries entries + 1
  | .held _ => 1
def uptoBulkAll {H : Type} : List (DataW H) → Nat
  | [] => 0
  | d :: r => uptoBulk d + uptoBulkAll r
def uptoBulkEntries {H : Type} : List (Lit × DataW H) → Nat
  | [] => 0
  | x :: r => uptoBulkEntry x + uptoBulkEntries r
def uptoBulkEntry {H : Type} : Lit × DataW H → Nat
  | (.string bytes, d) => bytes.length + uptoBulk d + 1
  | (_, d) => uptoBulk d + 1
 end
def uptoSmall : (H : Type) → List (DataW H) → Bool := fun _ ds => decide (uptoBulkAll ds ≤ 1048576)
def OpenSpec.upto (s : _root_.Go.ChangeSpec) : _root_.Go.OpenSpec := { _root_.Go.OpenSpec.ofChange s with cond := some uptoSmall }

/-- 'pandectlaw51.EditorMarks', WHERE WHAT IT READS IS OF BULK AT MOST 1048576: true; the input reads as it did. -/
def editorMarksUptoRow : OpenClaim := { program := "ytlfohdkfpdkhhaagreatdoor", sum := "29dd31c6744e7ce1076b3f3aab0976ecf2045a6de06005bfcf57fbbe1a61efd0", func := "pandect/pandectlaw51.EditorMarks", spec := "editorMarks", inPlace := ["slices.overlaps[pandect/api.Unit]"], unfollowed := true, recurses := true, named := ["pandect/unit.names", "pandect/unit.below"], loops := true, plainKeys := false, apart := false, laid := [("pandect/unit.names", laid_pandect_unit_names), ("pandect/unit.below", laid_pandect_unit_below)], narrowed := true }
def EditorMarksUptoSaid : Prop := editorMarksUptoRow.holds Tryz.pinned (OpenSpec.upto editorMarksSpec)

/-- 'pandectlaw51.EditorUndoAll', WHERE WHAT IT READS IS OF BULK AT MOST 1048576: true; the input reads as it did. -/
def editorUndoAllUptoRow : OpenClaim := { program := "ytlfohdkfpdkhhaagreatdoor", sum := "29dd31c6744e7ce1076b3f3aab0976ecf2045a6de06005bfcf57fbbe1a61efd0", func := "pandect/pandectlaw51.EditorUndoAll", spec := "editorUndoAll", inPlace := ["slices.overlaps[pandect/api.Unit]"], unfollowed := true, recurses := true, named := ["pandect/unit.names", "pandect/unit.below"], loops := true, plainKeys := false, apart := false, laid := [("pandect/unit.names", laid_pandect_unit_names), ("pandect/unit.below", laid_pandect_unit_below)], narrowed := true }
def EditorUndoAllUptoSaid : Prop := editorUndoAllUptoRow.holds Tryz.pinned (OpenSpec.upto editorUndoAllSpec)

/-- 'pandectlaw51.EditorStands', WHERE WHAT IT READS IS OF BULK AT MOST 1048576: true; the input reads as it did. -/
def editorStandsUptoRow : OpenClaim := { program := "ytlfohdkfpdkhhaagreatdoor", sum := "29dd31c6744e7ce1076b3f3aab0976ecf2045a6de06005bfcf57fbbe1a61efd0", func := "pandect/pandectlaw51.EditorStands", spec := "editorStands", inPlace := ["slices.overlaps[pandect/api.Unit]"], unfollowed := true, recurses := true, named := ["pandect/unit.names", "pandect/unit.below"], loops := true, plainKeys := false, apart := false, laid := [("pandect/unit.names", laid_pandect_unit_names), ("pandect/unit.below", laid_pandect_unit_below)], narrowed := true }
def EditorStandsUptoSaid : Prop := editorStandsUptoRow.holds Tryz.pinned (OpenSpec.upto editorStandsSpec)

/-- 'pandectlaw51.EditorOpen', WHERE WHAT IT READS IS OF BULK AT MOST 1048576: true; the input reads as it did. -/
def editorOpenUptoRow : OpenClaim := { program := "ytlfohdkfpdkhhaagreatdoor", sum := "29dd31c6744e7ce1076b3f3aab0976ecf2045a6de06005bfcf57fbbe1a61efd0", func := "pandect/pandectlaw51.EditorOpen", spec := "editorOpen", inPlace := ["slices.overlaps[pandect/api.Unit]"], unfollowed := true, recurses := true, named := ["pandect/unit.names", "pandect/unit.below"], loops := true, plainKeys := false, apart := false, laid := [("pandect/unit.names", laid_pandect_unit_names), ("pandect/unit.below", laid_pandect_unit_below)], narrowed := true }
def EditorOpenUptoSaid : Prop := editorOpenUptoRow.holds Tryz.pinned (OpenSpec.upto editorOpenSpec)

/-- 'pandectlaw51.EditorSession', WHERE WHAT IT READS IS OF BULK AT MOST 1048576: true; the input reads as it did. -/
def editorSessionUptoRow : OpenClaim := { program := "ytlfohdkfpdkhhaagreatdoor", sum := "29dd31c6744e7ce1076b3f3aab0976ecf2045a6de06005bfcf57fbbe1a61efd0", func := "pandect/pandectlaw51.EditorSession", spec := "editorSession", inPlace := ["slices.overlaps[pandect/api.Unit]"], unfollowed := true, recurses := true, named := ["pandect/unit.names", "pandect/unit.below"], loops := true, plainKeys := false, apart := false, laid := [("pandect/unit.names", laid_pandect_unit_names), ("pandect/unit.below", laid_pandect_unit_below)], narrowed := true }
def EditorSessionUptoSaid : Prop := editorSessionUptoRow.holds Tryz.pinned (OpenSpec.upto editorSessionSpec)

/-- 'pandectlaw51.EditorReplay', WHERE WHAT IT READS IS OF BULK AT MOST 1048576: true; the input reads as it did. -/
def editorReplayUptoRow : OpenClaim := { program := "ytlfohdkfpdkhhaagreatdoor", sum := "29dd31c6744e7ce1076b3f3aab0976ecf2045a6de06005bfcf57fbbe1a61efd0", func := "pandect/pandectlaw51.EditorReplay", spec := "editorReplay", inPlace := ["slices.overlaps[pandect/api.Unit]"], unfollowed := true, recurses := true, named := ["pandect/unit.names", "pandect/unit.below"], loops := true, plainKeys := false, apart := false, laid := [("pandect/unit.names", laid_pandect_unit_names), ("pandect/unit.below", laid_pandect_unit_below)], narrowed := true }
def EditorReplayUptoSaid : Prop := editorReplayUptoRow.holds Tryz.pinned (OpenSpec.upto editorReplaySpec)

/-- 'pandectlaw51.EditorClone', WHERE WHAT IT READS IS OF BULK AT MOST 1048576: true; the input reads as it did. -/
def editorCloneUptoRow : OpenClaim := { program := "ytlfohdkfpdkhhaagreatdoor", sum := "29dd31c6744e7ce1076b3f3aab0976ecf2045a6de06005bfcf57fbbe1a61efd0", func := "pandect/pandectlaw51.EditorClone", spec := "editorClone", inPlace := ["slices.overlaps[pandect/api.Unit]"], unfollowed := true, recurses := true, named := ["pandect/unit.names", "pandect/unit.below"], loops := true, plainKeys := false, apart := false, laid := [("pandect/unit.names", laid_pandect_unit_names), ("pandect/unit.below", laid_pandect_unit_below)], narrowed := true }
def EditorCloneUptoSaid : Prop := editorCloneUptoRow.holds Tryz.pinned (OpenSpec.upto editorCloneSpec)

end Rows
end Go.Proofs.YtlfohdkfpdkhhaaGreatDoor
