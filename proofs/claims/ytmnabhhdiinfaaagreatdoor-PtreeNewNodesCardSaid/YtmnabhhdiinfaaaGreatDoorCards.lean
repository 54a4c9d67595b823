/-
  DERIVED. GIVEN WITH THE SEED: THE CARDS: each row of YtmnabhhdiinfaaaGreatDoorRows.lean that lists a variable, with what it lists TIED to the program's text (the seventh form; the later family's looks); each row that meets fmt, with fmt's text TOLD by the authors' own Lean function (tested against real Go, not proved from fmt's source: count such statements apart). THE CARD IS WHAT COUNTS. Prove the row's statement (the work); the ties are given (YtmnabhhdiinfaaaGreatDoorTie.lean); close each card by the builder's one call (the guide's Derived/Test/ToyasCard.lean, 'card_holds'). Laid BY PROGRAM, IN A SANDBOX (cutbox-door.mjs). By AI agents, Wed Nov 11 2026. No macro, syntax, notation, axiom, sorry.
-/
import Derived.Test.YtmnabhhdiinfaaaGreatDoorRows
import GoSem.ClaimSeven
namespace Go.Proofs.YtmnabhhdiinfaaaGreatDoor
namespace Rows

/-- THE TIED CARD OF 'pandectlaw15.PtreeNew'. -/
def ptreeNewCard : Claim7 := { stood := { row := ptreeNewRow, standIns := [], harness := (true, "f31068542fb6cf17c2adf206b016ca9beeb7fe9b24e17a2d0432574172ddc193"), looks := false }, kinds := [], alts := [], laidByText := true, laidKinds := [.data, .widerDeep], laidTests := true, laidLooks := .later }
def PtreeNewCardSaid : Prop := Claim7.holds Tryz.pinned (.plain (OpenSpec.ofChange ptreeNewSpec)) ptreeNewCard

/-- THE TIED CARD OF 'pandectlaw15.PtreeUpdates'. -/
def ptreeUpdatesCard : Claim7 := { stood := { row := ptreeUpdatesRow, standIns := [], harness := (true, "f31068542fb6cf17c2adf206b016ca9beeb7fe9b24e17a2d0432574172ddc193"), looks := false }, kinds := [], alts := [], laidByText := true, laidKinds := [.data, .widerDeep], laidTests := true, laidLooks := .later }
def PtreeUpdatesCardSaid : Prop := Claim7.holds Tryz.pinned (.plain (OpenSpec.ofChange ptreeUpdatesSpec)) ptreeUpdatesCard

/-- THE TIED CARD OF 'pandectlaw15.PtreeNewNodes'. -/
def ptreeNewNodesCard : Claim7 := { stood := { row := ptreeNewNodesRow, standIns := [], harness := (true, "f31068542fb6cf17c2adf206b016ca9beeb7fe9b24e17a2d0432574172ddc193"), looks := false }, kinds := [], alts := [], laidByText := true, laidKinds := [.data, .widerDeep], laidTests := true, laidLooks := .later }
def PtreeNewNodesCardSaid : Prop := Claim7.holds Tryz.pinned (.plain (OpenSpec.ofChange ptreeNewNodesSpec)) ptreeNewNodesCard

/-- THE TIED CARD OF 'pandectlaw15.PtreeBranches'. -/
def ptreeBranchesCard : Claim7 := { stood := { row := ptreeBranchesRow, standIns := [], harness := (true, "f31068542fb6cf17c2adf206b016ca9beeb7fe9b24e17a2d0432574172ddc193"), looks := false }, kinds := [], alts := [], laidByText := true, laidKinds := [.data, .widerDeep], laidTests := true, laidLooks := .later }
def PtreeBranchesCardSaid : Prop := Claim7.holds Tryz.pinned (.plain (OpenSpec.ofChange ptreeBranchesSpec)) ptreeBranchesCard

/-- THE TIED CARD OF 'pandectlaw15.PtreeSharing'. -/
def ptreeSharingCard : Claim7 := { stood := { row := ptreeSharingRow, standIns := [], harness := (true, "f31068542fb6cf17c2adf206b016ca9beeb7fe9b24e17a2d0432574172ddc193"), looks := false }, kinds := [], alts := [], laidByText := true, laidKinds := [.data, .widerDeep], laidTests := true, laidLooks := .later }
def PtreeSharingCardSaid : Prop := Claim7.holds Tryz.pinned (.plain (OpenSpec.ofChange ptreeSharingSpec)) ptreeSharingCard

/-- THE TIED CARD OF 'pandectlaw15.PtreeTreeedit'. -/
def ptreeTreeeditCard : Claim7 := { stood := { row := ptreeTreeeditRow, standIns := [], harness := (true, "f31068542fb6cf17c2adf206b016ca9beeb7fe9b24e17a2d0432574172ddc193"), looks := false }, kinds := [], alts := [], laidByText := true, laidKinds := [.data, .widerDeep], laidTests := true, laidLooks := .later }
def PtreeTreeeditCardSaid : Prop := Claim7.holds Tryz.pinned (.plain (OpenSpec.ofChange ptreeTreeeditSpec)) ptreeTreeeditCard

/-- THE SECOND FORM's CARD OF 'pandectlaw15.PtreeNew'. -/
def ptreeNewUptoCard : Claim7 := { stood := { row := ptreeNewUptoRow, standIns := [], harness := (true, "f31068542fb6cf17c2adf206b016ca9beeb7fe9b24e17a2d0432574172ddc193"), looks := false }, kinds := [], alts := [], laidByText := true, laidKinds := [.data, .widerDeep], laidTests := true, laidLooks := .later }
def PtreeNewUptoCardSaid : Prop := Claim7.holds Tryz.pinned (.plain (OpenSpec.upto ptreeNewSpec)) ptreeNewUptoCard

/-- THE SECOND FORM's CARD OF 'pandectlaw15.PtreeUpdates'. -/
def ptreeUpdatesUptoCard : Claim7 := { stood := { row := ptreeUpdatesUptoRow, standIns := [], harness := (true, "f31068542fb6cf17c2adf206b016ca9beeb7fe9b24e17a2d0432574172ddc193"), looks := false }, kinds := [], alts := [], laidByText := true, laidKinds := [.data, .widerDeep], laidTests := true, laidLooks := .later }
def PtreeUpdatesUptoCardSaid : Prop := Claim7.holds Tryz.pinned (.plain (OpenSpec.upto ptreeUpdatesSpec)) ptreeUpdatesUptoCard

/-- THE SECOND FORM's CARD OF 'pandectlaw15.PtreeNewNodes'. -/
def ptreeNewNodesUptoCard : Claim7 := { stood := { row := ptreeNewNodesUptoRow, standIns := [], harness := (true, "f31068542fb6cf17c2adf206b016ca9beeb7fe9b24e17a2d0432574172ddc193"), looks := false }, kinds := [], alts := [], laidByText := true, laidKinds := [.data, .widerDeep], laidTests := true, laidLooks := .later }
def PtreeNewNodesUptoCardSaid : Prop := Claim7.holds Tryz.pinned (.plain (OpenSpec.upto ptreeNewNodesSpec)) ptreeNewNodesUptoCard

/-- THE SECOND FORM's CARD OF 'pandectlaw15.PtreeBranches'. -/
def ptreeBranchesUptoCard : Claim7 := { stood := { row := ptreeBranchesUptoRow, standIns := [], harness := (true, "f31068542fb6cf17c2adf206b016ca9beeb7fe9b24e17a2d0432574172ddc193"), looks := false }, kinds := [], alts := [], laidByText := true, laidKinds := [.data, .widerDeep], laidTests := true, laidLooks := .later }
def PtreeBranchesUptoCardSaid : Prop := Claim7.holds Tryz.pinned (.plain (OpenSpec.upto ptreeBranchesSpec)) ptreeBranchesUptoCard

/-- THE SECOND FORM's CARD OF 'pandectlaw15.PtreeSharing'. -/
def ptreeSharingUptoCard : Claim7 := { stood := { row := ptreeSharingUptoRow, standIns := [], harness := (true, "f31068542fb6cf17c2adf206b016ca9beeb7fe9b24e17a2d0432574172ddc193"), looks := false }, kinds := [], alts := [], laidByText := true, laidKinds := [.data, .widerDeep], laidTests := true, laidLooks := .later }
def PtreeSharingUptoCardSaid : Prop := Claim7.holds Tryz.pinned (.plain (OpenSpec.upto ptreeSharingSpec)) ptreeSharingUptoCard

/-- THE SECOND FORM's CARD OF 'pandectlaw15.PtreeTreeedit'. -/
def ptreeTreeeditUptoCard : Claim7 := { stood := { row := ptreeTreeeditUptoRow, standIns := [], harness := (true, "f31068542fb6cf17c2adf206b016ca9beeb7fe9b24e17a2d0432574172ddc193"), looks := false }, kinds := [], alts := [], laidByText := true, laidKinds := [.data, .widerDeep], laidTests := true, laidLooks := .later }
def PtreeTreeeditUptoCardSaid : Prop := Claim7.holds Tryz.pinned (.plain (OpenSpec.upto ptreeTreeeditSpec)) ptreeTreeeditUptoCard
end Rows
end Go.Proofs.YtmnabhhdiinfaaaGreatDoor
