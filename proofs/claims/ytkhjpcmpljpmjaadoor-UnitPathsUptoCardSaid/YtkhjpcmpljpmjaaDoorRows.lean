/-
  NARROWER THAN 'FOR EVERY INPUT', by the rows' own cells (each row's printed sentence says how): UnitValidity: loops, laid · UnitCorruption: loops, laid · UnitLimits: laid · UnitLookup: loops, laid · UnitEquality: loops, laid · UnitPaths: loops, laid · TreeeditRemoveInverse: loops, laid · TreeeditMoveInverse: loops, laid.
  DERIVED. THE GIVEN ROWS OF THIS SEAT. 8 by the template 'for every input the law returns true; each argument reads behind the call as it read before'; 0 by the template 'total and deterministic' (their statements: YtkhjpcmpljpmjaaDoorTotals.lean).
  GIVEN WITH THE SEED: the statements are not yours to turn. If you find one false, say at which input.
  Laid BY PROGRAM, IN A SANDBOX (cutbox-rows.mjs): the forced cells as the released guide's own fill.sh prints them over the translation 0bc2e4bfed3fb2ff… (all of the seat's roots in one cut). By AI agents, Wed Nov 11 2026. No macro, syntax, notation, axiom, sorry.
-/
import Derived.Test.YtkhjpcmpljpmjaaDoorChecked
import GoSem.Claim
import GoSem.ClaimJoined
import GoSem.ClaimMapViews
import Derived.JoinedTies
import Derived.KernelRfl
namespace Go.Proofs.YtkhjpcmpljpmjaaDoor
/- THE CELL 'sum', in the pinned program and in every row, IS THE sha256 OF THE DUMP (.gsa) THAT YtkhjpcmpljpmjaaDoorProg.lean LOADS. Nothing in Lean hashes anything: it is a label: what it is worth is what the hold of that sum in a sandbox is worth. -/
noncomputable def Tryd.pinned : Pinned := { name := "ytkhjpcmpljpmjaadoor", sum := "0bc2e4bfed3fb2ff6a28bb1049e598a810f6c3003f925eeba966f529da7152d7", checked := Tryd.checked }
namespace Rows
def none {H : Type} : Left H := { results := [], args := [] }

/- WHAT THE LISTED PACKAGE-LEVEL VARIABLES READ AS WHEN THE CALL BEGINS. Each datum BY PROGRAM (the guide's laid-datum.mjs) off the statement by which the dump's own 'gosem.cut.vars' lays the variable. In a bare row this is a premise. The card (YtkhjpcmpljpmjaaDoorCards.lean) ties it to the program's text. -/
def laid_pandect_unit_names {H : Type} : DataW H := .agg [.lit (.string [98, 111, 111, 107]), .lit (.string [112, 97, 114, 116]), .lit (.string [115, 101, 99, 116, 105, 111, 110]), .lit (.string [112, 97, 114, 97, 103, 114, 97, 112, 104]), .lit (.string [116, 97, 98, 108, 101]), .lit (.string [114, 111, 119]), .lit (.string [99, 101, 108, 108]), .lit (.string [110, 111, 116, 101])]
def laid_pandect_unit_below {H : Type} : DataW H := .agg [.slice [.lit (.int .i64 1), .lit (.int .i64 2)] [], .slice [.lit (.int .i64 2)] [], .slice [.lit (.int .i64 3), .lit (.int .i64 4), .lit (.int .i64 7)] [], .slice [.lit (.int .i64 3), .lit (.int .i64 4), .lit (.int .i64 7)] [], .slice [.lit (.int .i64 5)] [], .slice [.lit (.int .i64 6)] [], .nil, .nil]

/-- 'pandectlaw06.UnitValidity': WHATEVER THE INPUT: true; the input reads as it did. -/
def unitValiditySpec : ChangeSpec := { name := "unitValidity", fn := fun _ => fun
  | [d1, d2, d3] => { results := [.lit (.bool true)], args := [d1, d2, d3] }
  | _ => none }
def unitValidityRow : OpenClaim := { program := "ytkhjpcmpljpmjaadoor", sum := "0bc2e4bfed3fb2ff6a28bb1049e598a810f6c3003f925eeba966f529da7152d7", func := "pandect/pandectlaw06.UnitValidity", spec := "unitValidity", unfollowed := true, recurses := true, named := ["pandect/unit.names", "pandect/unit.below"], loops := true, plainKeys := false, apart := false, laid := [("pandect/unit.names", laid_pandect_unit_names), ("pandect/unit.below", laid_pandect_unit_below)] }
def UnitValiditySaid : Prop := unitValidityRow.holds Tryd.pinned (OpenSpec.ofChange unitValiditySpec)

/-- ITS FALSE NEIGHBOUR: 'it returns false'. Refute it at one input. -/
def unitValidityWrong : ChangeSpec := { name := "unitValidity", fn := fun _ => fun
  | [d1, d2, d3] => { results := [.lit (.bool false)], args := [d1, d2, d3] }
  | _ => none }
def UnitValidityWrongFalsely : Prop := unitValidityRow.holds Tryd.pinned (OpenSpec.ofChange unitValidityWrong)

/-- 'pandectlaw06.UnitCorruption': WHATEVER THE INPUT: true; the input reads as it did. -/
def unitCorruptionSpec : ChangeSpec := { name := "unitCorruption", fn := fun _ => fun
  | [d1, d2, d3] => { results := [.lit (.bool true)], args := [d1, d2, d3] }
  | _ => none }
def unitCorruptionRow : OpenClaim := { program := "ytkhjpcmpljpmjaadoor", sum := "0bc2e4bfed3fb2ff6a28bb1049e598a810f6c3003f925eeba966f529da7152d7", func := "pandect/pandectlaw06.UnitCorruption", spec := "unitCorruption", unfollowed := true, recurses := true, named := ["pandect/unit.names", "pandect/unit.below"], loops := true, plainKeys := false, apart := false, laid := [("pandect/unit.names", laid_pandect_unit_names), ("pandect/unit.below", laid_pandect_unit_below)] }
def UnitCorruptionSaid : Prop := unitCorruptionRow.holds Tryd.pinned (OpenSpec.ofChange unitCorruptionSpec)

/-- ITS FALSE NEIGHBOUR: 'it returns false'. Refute it at one input. -/
def unitCorruptionWrong : ChangeSpec := { name := "unitCorruption", fn := fun _ => fun
  | [d1, d2, d3] => { results := [.lit (.bool false)], args := [d1, d2, d3] }
  | _ => none }
def UnitCorruptionWrongFalsely : Prop := unitCorruptionRow.holds Tryd.pinned (OpenSpec.ofChange unitCorruptionWrong)

/-- 'pandectlaw06.UnitLimits': WHATEVER THE INPUT: true; the input reads as it did. -/
def unitLimitsSpec : ChangeSpec := { name := "unitLimits", fn := fun _ => fun
  | [d1, d2, d3] => { results := [.lit (.bool true)], args := [d1, d2, d3] }
  | _ => none }
def unitLimitsRow : OpenClaim := { program := "ytkhjpcmpljpmjaadoor", sum := "0bc2e4bfed3fb2ff6a28bb1049e598a810f6c3003f925eeba966f529da7152d7", func := "pandect/pandectlaw06.UnitLimits", spec := "unitLimits", unfollowed := true, recurses := true, named := ["pandect/unit.names", "pandect/unit.below"], plainKeys := false, apart := false, laid := [("pandect/unit.names", laid_pandect_unit_names), ("pandect/unit.below", laid_pandect_unit_below)] }
def UnitLimitsSaid : Prop := unitLimitsRow.holds Tryd.pinned (OpenSpec.ofChange unitLimitsSpec)

/-- ITS FALSE NEIGHBOUR: 'it returns false'. Refute it at one input. -/
def unitLimitsWrong : ChangeSpec := { name := "unitLimits", fn := fun _ => fun
  | [d1, d2, d3] => { results := [.lit (.bool false)], args := [d1, d2, d3] }
  | _ => none }
def UnitLimitsWrongFalsely : Prop := unitLimitsRow.holds Tryd.pinned (OpenSpec.ofChange unitLimitsWrong)

/-- 'pandectlaw06.UnitLookup': WHATEVER THE INPUT: true; the input reads as it did. -/
def unitLookupSpec : ChangeSpec := { name := "unitLookup", fn := fun _ => fun
  | [d1, d2] => { results := [.lit (.bool true)], args := [d1, d2] }
  | _ => none }
def unitLookupRow : OpenClaim := { program := "ytkhjpcmpljpmjaadoor", sum := "0bc2e4bfed3fb2ff6a28bb1049e598a810f6c3003f925eeba966f529da7152d7", func := "pandect/pandectlaw06.UnitLookup", spec := "unitLookup", unfollowed := true, recurses := true, named := ["pandect/unit.names", "pandect/unit.below"], loops := true, plainKeys := false, apart := false, laid := [("pandect/unit.names", laid_pandect_unit_names), ("pandect/unit.below", laid_pandect_unit_below)] }
def UnitLookupSaid : Prop := unitLookupRow.holds Tryd.pinned (OpenSpec.ofChange unitLookupSpec)

/-- ITS FALSE NEIGHBOUR: 'it returns false'. Refute it at one input. -/
def unitLookupWrong : ChangeSpec := { name := "unitLookup", fn := fun _ => fun
  | [d1, d2] => { results := [.lit (.bool false)], args := [d1, d2] }
  | _ => none }
def UnitLookupWrongFalsely : Prop := unitLookupRow.holds Tryd.pinned (OpenSpec.ofChange unitLookupWrong)

/-- 'pandectlaw06.UnitEquality': WHATEVER THE INPUT: true; the input reads as it did. -/
def unitEqualitySpec : ChangeSpec := { name := "unitEquality", fn := fun _ => fun
  | [d1, d2] => { results := [.lit (.bool true)], args := [d1, d2] }
  | _ => none }
def unitEqualityRow : OpenClaim := { program := "ytkhjpcmpljpmjaadoor", sum := "0bc2e4bfed3fb2ff6a28bb1049e598a810f6c3003f925eeba966f529da7152d7", func := "pandect/pandectlaw06.UnitEquality", spec := "unitEquality", unfollowed := true, recurses := true, named := ["pandect/unit.names", "pandect/unit.below"], loops := true, plainKeys := false, apart := false, laid := [("pandect/unit.names", laid_pandect_unit_names), ("pandect/unit.below", laid_pandect_unit_below)] }
def UnitEqualitySaid : Prop := unitEqualityRow.holds Tryd.pinned (OpenSpec.ofChange unitEqualitySpec)

/-- ITS FALSE NEIGHBOUR: 'it returns false'. Refute it at one input. -/
def unitEqualityWrong : ChangeSpec := { name := "unitEquality", fn := fun _ => fun
  | [d1, d2] => { results := [.lit (.bool false)], args := [d1, d2] }
  | _ => none }
def UnitEqualityWrongFalsely : Prop := unitEqualityRow.holds Tryd.pinned (OpenSpec.ofChange unitEqualityWrong)

/-- 'pandectlaw06.UnitPaths': WHATEVER THE INPUT: true; the input reads as it did. -/
def unitPathsSpec : ChangeSpec := { name := "unitPaths", fn := fun _ => fun
  | [d1, d2] => { results := [.lit (.bool true)], args := [d1, d2] }
  | _ => none }
def unitPathsRow : OpenClaim := { program := "ytkhjpcmpljpmjaadoor", sum := "0bc2e4bfed3fb2ff6a28bb1049e598a810f6c3003f925eeba966f529da7152d7", func := "pandect/pandectlaw06.UnitPaths", spec := "unitPaths", unfollowed := true, recurses := true, named := ["pandect/unit.names", "pandect/unit.below"], loops := true, plainKeys := false, apart := false, laid := [("pandect/unit.names", laid_pandect_unit_names), ("pandect/unit.below", laid_pandect_unit_below)] }
def UnitPathsSaid : Prop := unitPathsRow.holds Tryd.pinned (OpenSpec.ofChange unitPathsSpec)

/-- ITS FALSE NEIGHBOUR: 'it returns false'. Refute it at one input. -/
def unitPathsWrong : ChangeSpec := { name := "unitPaths", fn := fun _ => fun
  | [d1, d2] => { results := [.lit (.bool false)], args := [d1, d2] }
  | _ => none }
def UnitPathsWrongFalsely : Prop := unitPathsRow.holds Tryd.pinned (OpenSpec.ofChange unitPathsWrong)

/-- 'pandectlaw08.TreeeditRemoveInverse': WHATEVER THE INPUT: true; the input reads as it did. -/
def treeeditRemoveInverseSpec : ChangeSpec := { name := "treeeditRemoveInverse", fn := fun _ => fun
  | [d1, d2, d3, d4, d5] => { results := [.lit (.bool true)], args := [d1, d2, d3, d4, d5] }
  | _ => none }
def treeeditRemoveInverseRow : OpenClaim := { program := "ytkhjpcmpljpmjaadoor", sum := "0bc2e4bfed3fb2ff6a28bb1049e598a810f6c3003f925eeba966f529da7152d7", func := "pandect/pandectlaw08.TreeeditRemoveInverse", spec := "treeeditRemoveInverse", inPlace := ["slices.overlaps[pandect/api.Unit]"], unfollowed := true, recurses := true, named := ["pandect/unit.names", "pandect/unit.below"], loops := true, plainKeys := false, apart := false, laid := [("pandect/unit.names", laid_pandect_unit_names), ("pandect/unit.below", laid_pandect_unit_below)] }
def TreeeditRemoveInverseSaid : Prop := treeeditRemoveInverseRow.holds Tryd.pinned (OpenSpec.ofChange treeeditRemoveInverseSpec)

/-- ITS FALSE NEIGHBOUR: 'it returns false'. Refute it at one input. -/
def treeeditRemoveInverseWrong : ChangeSpec := { name := "treeeditRemoveInverse", fn := fun _ => fun
  | [d1, d2, d3, d4, d5] => { results := [.lit (.bool false)], args := [d1, d2, d3, d4, d5] }
  | _ => none }
def TreeeditRemoveInverseWrongFalsely : Prop := treeeditRemoveInverseRow.holds Tryd.pinned (OpenSpec.ofChange treeeditRemoveInverseWrong)

/-- 'pandectlaw08.TreeeditMoveInverse': WHATEVER THE INPUT: true; the input reads as it did. -/
def treeeditMoveInverseSpec : ChangeSpec := { name := "treeeditMoveInverse", fn := fun _ => fun
  | [d1, d2, d3, d4] => { results := [.lit (.bool true)], args := [d1, d2, d3, d4] }
  | _ => none }
def treeeditMoveInverseRow : OpenClaim := { program := "ytkhjpcmpljpmjaadoor", sum := "0bc2e4bfed3fb2ff6a28bb1049e598a810f6c3003f925eeba966f529da7152d7", func := "pandect/pandectlaw08.TreeeditMoveInverse", spec := "treeeditMoveInverse", inPlace := ["slices.overlaps[pandect/api.Unit]"], unfollowed := true, recurses := true, named := ["pandect/unit.names", "pandect/unit.below"], loops := true, plainKeys := false, apart := false, laid := [("pandect/unit.names", laid_pandect_unit_names), ("pandect/unit.below", laid_pandect_unit_below)] }
def TreeeditMoveInverseSaid : Prop := treeeditMoveInverseRow.holds Tryd.pinned (OpenSpec.ofChange treeeditMoveInverseSpec)

/-- ITS FALSE NEIGHBOUR: 'it returns false'. Refute it at one input. -/
def treeeditMoveInverseWrong : ChangeSpec := { name := "treeeditMoveInverse", fn := fun _ => fun
  | [d1, d2, d3, d4] => { results := [.lit (.bool false)], args := [d1, d2, d3, d4] }
  | _ => none }
def TreeeditMoveInverseWrongFalsely : Prop := treeeditMoveInverseRow.holds Tryd.pinned (OpenSpec.ofChange treeeditMoveInverseWrong)

/- THE SECOND FORM. 'bulk': how many values and letters a reading holds, each counted each time it is reached (what is shared counts as often as it is met; a slice's spare places count too). A statement '..UptoSaid' is the law's where the arguments, and the package variables that the reading takes, are together of bulk at most 1048576: NARROWER than '..Said'. Prove '..Said' where nothing that the law and all that it calls make is longer than what came in: it says more and counts as full. Else prove '..UptoSaid'. A law counts once. -/
mutual
def uptoBulk {H : Type} : DataW H → Nat
  | .lit (.string bytes) => bytes.length + 1
  | .lit _ => 1
  | .nil => 1
  | .ptr d => uptoBulk d + 1
  | .slice elems spare => uptoBulkAll elems + uptoBulkAll spare + 1
  | .agg parts => uptoBulkAll parts + 1
  | .iface _ d => uptoBulk d + 1
  | .map entries => uptoBulkEntries entries + 1
  | .held _ => 1
def uptoBulkAll {H : Type} : List (DataW H) → Nat
  | [] => 0
  | d :: r => uptoBulk d + uptoBulkAll r
def uptoBulkEntries {H : Type} : List (Lit × DataW H) → Nat
  | [] => 0
  | x :: r => uptoBulkEntry x + uptoBulkEntries r
def uptoBulkEntry {H : Type} : Lit × DataW H → Nat
  | (.string bytes, d) => bytes.length + uptoBulk d + 1
  | (_, d) => uptoBulk d + 1
 end
def uptoSmall : (H : Type) → List (DataW H) → Bool := fun _ ds => decide (uptoBulkAll ds ≤ 1048576)
def OpenSpec.upto (s : _root_.Go.ChangeSpec) : _root_.Go.OpenSpec := { _root_.Go.OpenSpec.ofChange s with cond := some uptoSmall }

/-- 'pandectlaw06.UnitValidity', WHERE WHAT IT READS IS OF BULK AT MOST 1048576: true; the input reads as it did. -/
def unitValidityUptoRow : OpenClaim := { program := "ytkhjpcmpljpmjaadoor", sum := "0bc2e4bfed3fb2ff6a28bb1049e598a810f6c3003f925eeba966f529da7152d7", func := "pandect/pandectlaw06.UnitValidity", spec := "unitValidity", unfollowed := true, recurses := true, named := ["pandect/unit.names", "pandect/unit.below"], loops := true, plainKeys := false, apart := false, laid := [("pandect/unit.names", laid_pandect_unit_names), ("pandect/unit.below", laid_pandect_unit_below)], narrowed := true }
def UnitValidityUptoSaid : Prop := unitValidityUptoRow.holds Tryd.pinned (OpenSpec.upto unitValiditySpec)

/-- 'pandectlaw06.UnitCorruption', WHERE WHAT IT READS IS OF BULK AT MOST 1048576: true; the input reads as it did. -/
def unitCorruptionUptoRow : OpenClaim := { program := "ytkhjpcmpljpmjaadoor", sum := "0bc2e4bfed3fb2ff6a28bb1049e598a810f6c3003f925eeba966f529da7152d7", func := "pandect/pandectlaw06.UnitCorruption", spec := "unitCorruption", unfollowed := true, recurses := true, named := ["pandect/unit.names", "pandect/unit.below"], loops := true, plainKeys := false, apart := false, laid := [("pandect/unit.names", laid_pandect_unit_names), ("pandect/unit.below", laid_pandect_unit_below)], narrowed := true }
def UnitCorruptionUptoSaid : Prop := unitCorruptionUptoRow.holds Tryd.pinned (OpenSpec.upto unitCorruptionSpec)

/-- 'pandectlaw06.UnitLimits', WHERE WHAT IT READS IS OF BULK AT MOST 1048576: true; the input reads as it did. -/
def unitLimitsUptoRow : OpenClaim := { program := "ytkhjpcmpljpmjaadoor", sum := "0bc2e4bfed3fb2ff6a28bb1049e598a810f6c3003f925eeba966f529da7152d7", func := "pandect/pandectlaw06.UnitLimits", spec := "unitLimits", unfollowed := true, recurses := true, named := ["pandect/unit.names", "pandect/unit.below"], plainKeys := false, apart := false, laid := [("pandect/unit.names", laid_pandect_unit_names), ("pandect/unit.below", laid_pandect_unit_below)], narrowed := true }
def UnitLimitsUptoSaid : Prop := unitLimitsUptoRow.holds Tryd.pinned (OpenSpec.upto unitLimitsSpec)

/-- 'pandectlaw06.UnitLookup', WHERE WHAT IT READS IS OF BULK AT MOST 1048576: true; the input reads as it did. -/
def unitLookupUptoRow : OpenClaim := { program := "ytkhjpcmpljpmjaadoor", sum := "0bc2e4bfed3fb2ff6a28bb1049e598a810f6c3003f925eeba966f529da7152d7", func := "pandect/pandectlaw06.UnitLookup", spec := "unitLookup", unfollowed := true, recurses := true, named := ["pandect/unit.names", "pandect/unit.below"], loops := true, plainKeys := false, apart := false, laid := [("pandect/unit.names", laid_pandect_unit_names), ("pandect/unit.below", laid_pandect_unit_below)], narrowed := true }
def UnitLookupUptoSaid : Prop := unitLookupUptoRow.holds Tryd.pinned (OpenSpec.upto unitLookupSpec)

/-- 'pandectlaw06.UnitEquality', WHERE WHAT IT READS IS OF BULK AT MOST 1048576: true; the input reads as it did. -/
def unitEqualityUptoRow : OpenClaim := { program := "ytkhjpcmpljpmjaadoor", sum := "0bc2e4bfed3fb2ff6a28bb1049e598a810f6c3003f925eeba966f529da7152d7", func := "pandect/pandectlaw06.UnitEquality", spec := "unitEquality", unfollowed := true, recurses := true, named := ["pandect/unit.names", "pandect/unit.below"], loops := true, plainKeys := false, apart := false, laid := [("pandect/unit.names", laid_pandect_unit_names), ("pandect/unit.below", laid_pandect_unit_below)], narrowed := true }
def UnitEqualityUptoSaid : Prop := unitEqualityUptoRow.holds Tryd.pinned (OpenSpec.upto unitEqualitySpec)

/-- 'pandectlaw06.UnitPaths', WHERE WHAT IT READS IS OF BULK AT MOST 1048576: true; the input reads as it did. -/
def unitPathsUptoRow : OpenClaim := { program := "ytkhjpcmpljpmjaadoor", sum := "0bc2e4bfed3fb2ff6a28bb1049e598a810f6c3003f925eeba966f529da7152d7", func := "pandect/pandectlaw06.UnitPaths", spec := "unitPaths", unfollowed := true, recurses := true, named := ["pandect/unit.names", "pandect/unit.below"], loops := true, plainKeys := false, apart := false, laid := [("pandect/unit.names", laid_pandect_unit_names), ("pandect/unit.below", laid_pandect_unit_below)], narrowed := true }
def UnitPathsUptoSaid : Prop := unitPathsUptoRow.holds Tryd.pinned (OpenSpec.upto unitPathsSpec)

/-- 'pandectlaw08.TreeeditRemoveInverse', WHERE WHAT IT READS IS OF BULK AT MOST 1048576: true; the input reads as it did. -/
def treeeditRemoveInverseUptoRow : OpenClaim := { program := "ytkhjpcmpljpmjaadoor", sum := "0bc2e4bfed3fb2ff6a28bb1049e598a810f6c3003f925eeba966f529da7152d7", func := "pandect/pandectlaw08.TreeeditRemoveInverse", spec := "treeeditRemoveInverse", inPlace := ["slices.overlaps[pandect/api.Unit]"], unfollowed := true, recurses := true, named := ["pandect/unit.names", "pandect/unit.below"], loops := true, plainKeys := false, apart := false, laid := [("pandect/unit.names", laid_pandect_unit_names), ("pandect/unit.below", laid_pandect_unit_below)], narrowed := true }
def TreeeditRemoveInverseUptoSaid : Prop := treeeditRemoveInverseUptoRow.holds Tryd.pinned (OpenSpec.upto treeeditRemoveInverseSpec)

/-- 'pandectlaw08.TreeeditMoveInverse', WHERE WHAT IT READS IS OF BULK AT MOST 1048576: true; the input reads as it did. -/
def treeeditMoveInverseUptoRow : OpenClaim := { program := "ytkhjpcmpljpmjaadoor", sum := "0bc2e4bfed3fb2ff6a28bb1049e598a810f6c3003f925eeba966f529da7152d7", func := "pandect/pandectlaw08.TreeeditMoveInverse", spec := "treeeditMoveInverse", inPlace := ["slices.overlaps[pandect/api.Unit]"], unfollowed := true, recurses := true, named := ["pandect/unit.names", "pandect/unit.below"], loops := true, plainKeys := false, apart := false, laid := [("pandect/unit.names", laid_pandect_unit_names), ("pandect/unit.below", laid_pandect_unit_below)], narrowed := true }
def TreeeditMoveInverseUptoSaid : Prop := treeeditMoveInverseUptoRow.holds Tryd.pinned (OpenSpec.upto treeeditMoveInverseSpec)

end Rows
end Go.Proofs.YtkhjpcmpljpmjaaDoor
