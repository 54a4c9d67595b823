/-
  DERIVED. GIVEN WITH THE SEED: THE CARDS: each row of YtfechgagcgbldaaDoorRows.lean that lists a variable, with what it lists TIED to the program's text (the seventh form; the later family's looks); each row that meets fmt, with fmt's text TOLD by the authors' own Lean function (tested against real Go, not proved from fmt's source: count such statements apart). THE CARD IS WHAT COUNTS. Prove the row's statement (the work); the ties are given (YtfechgagcgbldaaDoorTie.lean); close each card by the builder's one call (the guide's Derived/Test/ToyasCard.lean, 'card_holds'). Laid BY PROGRAM, IN A SANDBOX (cutbox-door.mjs). By AI agents, Wed Nov 11 2026. No macro, syntax, notation, axiom, sorry.
-/
import Derived.Test.YtfechgagcgbldaaDoorRows
import GoSem.ClaimSeven
namespace Go.Proofs.YtfechgagcgbldaaDoor
namespace Rows

/-- THE TIED CARD OF 'pandectlaw50.RedlineNodes'. -/
def redlineNodesCard : Claim7 := { stood := { row := redlineNodesRow, standIns := [], harness := (true, "a682ddb35bd874980c497e33451a1ec2a12883314d4fc7735400dbf2e89fc69b"), looks := false }, kinds := [], alts := [], laidByText := true, laidKinds := [.data, .widerDeep], laidTests := true, laidLooks := .later }
def RedlineNodesCardSaid : Prop := Claim7.holds Tryd.pinned (.plain (OpenSpec.ofChange redlineNodesSpec)) redlineNodesCard

/-- THE TIED CARD OF 'pandectlaw50.RedlineCounts'. -/
def redlineCountsCard : Claim7 := { stood := { row := redlineCountsRow, standIns := [], harness := (true, "a682ddb35bd874980c497e33451a1ec2a12883314d4fc7735400dbf2e89fc69b"), looks := false }, kinds := [], alts := [], laidByText := true, laidKinds := [.data, .widerDeep], laidTests := true, laidLooks := .later }
def RedlineCountsCardSaid : Prop := Claim7.holds Tryd.pinned (.plain (OpenSpec.ofChange redlineCountsSpec)) redlineCountsCard

/-- THE TIED CARD OF 'pandectlaw50.RedlineSequence'. -/
def redlineSequenceCard : Claim7 := { stood := { row := redlineSequenceRow, standIns := [], harness := (true, "a682ddb35bd874980c497e33451a1ec2a12883314d4fc7735400dbf2e89fc69b"), looks := false }, kinds := [], alts := [], laidByText := true, laidKinds := [.data, .widerDeep], laidTests := true, laidLooks := .later }
def RedlineSequenceCardSaid : Prop := Claim7.holds Tryd.pinned (.plain (OpenSpec.ofChange redlineSequenceSpec)) redlineSequenceCard

/-- THE SECOND FORM's CARD OF 'pandectlaw50.RedlineNodes'. -/
def redlineNodesUptoCard : Claim7 := { stood := { row := redlineNodesUptoRow, standIns := [], harness := (true, "a682ddb35bd874980c497e33451a1ec2a12883314d4fc7735400dbf2e89fc69b"), looks := false }, kinds := [], alts := [], laidByText := true, laidKinds := [.data, .widerDeep], laidTests := true, laidLooks := .later }
def RedlineNodesUptoCardSaid : Prop := Claim7.holds Tryd.pinned (.plain (OpenSpec.upto redlineNodesSpec)) redlineNodesUptoCard

/-- THE SECOND FORM's CARD OF 'pandectlaw50.RedlineCounts'. -/
def redlineCountsUptoCard : Claim7 := { stood := { row := redlineCountsUptoRow, standIns := [], harness := (true, "a682ddb35bd874980c497e33451a1ec2a12883314d4fc7735400dbf2e89fc69b"), looks := false }, kinds := [], alts := [], laidByText := true, laidKinds := [.data, .widerDeep], laidTests := true, laidLooks := .later }
def RedlineCountsUptoCardSaid : Prop := Claim7.holds Tryd.pinned (.plain (OpenSpec.upto redlineCountsSpec)) redlineCountsUptoCard

/-- THE SECOND FORM's CARD OF 'pandectlaw50.RedlineSequence'. -/
def redlineSequenceUptoCard : Claim7 := { stood := { row := redlineSequenceUptoRow, standIns := [], harness := (true, "a682ddb35bd874980c497e33451a1ec2a12883314d4fc7735400dbf2e89fc69b"), looks := false }, kinds := [], alts := [], laidByText := true, laidKinds := [.data, .widerDeep], laidTests := true, laidLooks := .later }
def RedlineSequenceUptoCardSaid : Prop := Claim7.holds Tryd.pinned (.plain (OpenSpec.upto redlineSequenceSpec)) redlineSequenceUptoCard
end Rows
end Go.Proofs.YtfechgagcgbldaaDoor
