/-
  DERIVED. GIVEN WITH THE SEED: THE CARDS: each row of YtlfohdkfpdkhhaaGreatDoorRows.lean that lists a variable, with what it lists TIED to the program's text (the seventh form; the later family's looks); each row that meets fmt, with fmt's text TOLD by the authors' own Lean function (tested against real Go, not proved from fmt's source: count such statements apart). THE CARD IS WHAT COUNTS. Prove the row's statement (the work); the ties are given (YtlfohdkfpdkhhaaGreatDoorTie.lean); close each card by the builder's one call (the guide's Derived/Test/ToyasCard.lean, 'card_holds'). Laid BY PROGRAM, IN A SANDBOX (cutbox-door.mjs). By AI agents, Wed Nov 11 2026. No macro, syntax, notation, axiom, sorry.
-/
import Derived.Test.YtlfohdkfpdkhhaaGreatDoorRows
import GoSem.ClaimSeven
namespace Go.Proofs.YtlfohdkfpdkhhaaGreatDoor
namespace Rows

/-- THE TIED CARD OF 'pandectlaw51.EditorMarks'. -/
def editorMarksCard : Claim7 := { stood := { row := editorMarksRow, standIns := [], harness := (true, "eced605825168e1d8023b1549c972621e83833b1a17d4a50dc3649740fc5e4c1"), looks := false }, kinds := [], alts := [], laidByText := true, laidKinds := [.data, .widerDeep], laidTests := true, laidLooks := .later }
def EditorMarksCardSaid : Prop := Claim7.holds Tryz.pinned (.plain (OpenSpec.ofChange editorMarksSpec)) editorMarksCard

/-- THE TIED CARD OF 'pandectlaw51.EditorUndoAll'. -/
def editorUndoAllCard : Claim7 := { stood := { row := editorUndoAllRow, standIns := [], harness := (true, "eced605825168e1d8023b1549c972621e83833b1a17d4a50dc3649740fc5e4c1"), looks := false }, kinds := [], alts := [], laidByText := true, laidKinds := [.data, .widerDeep], laidTests := true, laidLooks := .later }
def EditorUndoAllCardSaid : Prop := Claim7.holds Tryz.pinned (.plain (OpenSpec.ofChange editorUndoAllSpec)) editorUndoAllCard

/-- THE TIED CARD OF 'pandectlaw51.EditorStands'. -/
def editorStandsCard : Claim7 := { stood := { row := editorStandsRow, standIns := [], harness := (true, "eced605825168e1d8023b1549c972621e83833b1a17d4a50dc3649740fc5e4c1"), looks := false }, kinds := [], alts := [], laidByText := true, laidKinds := [.data, .widerDeep], laidTests := true, laidLooks := .later }
def EditorStandsCardSaid : Prop := Claim7.holds Tryz.pinned (.plain (OpenSpec.ofChange editorStandsSpec)) editorStandsCard

/-- THE TIED CARD OF 'pandectlaw51.EditorOpen'. -/
def editorOpenCard : Claim7 := { stood := { row := editorOpenRow, standIns := [], harness := (true, "eced605825168e1d8023b1549c972621e83833b1a17d4a50dc3649740fc5e4c1"), looks := false }, kinds := [], alts := [], laidByText := true, laidKinds := [.data, .widerDeep], laidTests := true, laidLooks := .later }
def EditorOpenCardSaid : Prop := Claim7.holds Tryz.pinned (.plain (OpenSpec.ofChange editorOpenSpec)) editorOpenCard

/-- THE TIED CARD OF 'pandectlaw51.EditorSession'. -/
def editorSessionCard : Claim7 := { stood := { row := editorSessionRow, standIns := [], harness := (true, "eced605825168e1d8023b1549c972621e83833b1a17d4a50dc3649740fc5e4c1"), looks := false }, kinds := [], alts := [], laidByText := true, laidKinds := [.data, .widerDeep], laidTests := true, laidLooks := .later }
def EditorSessionCardSaid : Prop := Claim7.holds Tryz.pinned (.plain (OpenSpec.ofChange editorSessionSpec)) editorSessionCard

/-- THE TIED CARD OF 'pandectlaw51.EditorReplay'. -/
def editorReplayCard : Claim7 := { stood := { row := editorReplayRow, standIns := [], harness := (true, "eced605825168e1d8023b1549c972621e83833b1a17d4a50dc3649740fc5e4c1"), looks := false }, kinds := [], alts := [], laidByText := true, laidKinds := [.data, .widerDeep], laidTests := true, laidLooks := .later }
def EditorReplayCardSaid : Prop := Claim7.holds Tryz.pinned (.plain (OpenSpec.ofChange editorReplaySpec)) editorReplayCard

/-- THE TIED CARD OF 'pandectlaw51.EditorClone'. -/
def editorCloneCard : Claim7 := { stood := { row := editorCloneRow, standIns := [], harness := (true, "eced605825168e1d8023b1549c972621e83833b1a17d4a50dc3649740fc5e4c1"), looks := false }, kinds := [], alts := [], laidByText := true, laidKinds := [.data, .widerDeep], laidTests := true, laidLooks := .later }
def EditorCloneCardSaid : Prop := Claim7.holds Tryz.pinned (.plain (OpenSpec.ofChange editorCloneSpec)) editorCloneCard

/-- THE SECOND FORM's CARD OF 'pandectlaw51.EditorMarks'. -/
def editorMarksUptoCard : Claim7 := { stood := { row := editorMarksUptoRow, standIns := [], harness := (true, "eced605825168e1d8023b1549c972621e83833b1a17d4a50dc3649740fc5e4c1"), looks := false }, kinds := [], alts := [], laidByText := true, laidKinds := [.data, .widerDeep], laidTests := true, laidLooks := .later }
def EditorMarksUptoCardSaid : Prop := Claim7.holds Tryz.pinned (.plain (OpenSpec.upto editorMarksSpec)) editorMarksUptoCard

/-- THE SECOND FORM's CARD OF 'pandectlaw51.EditorUndoAll'. -/
def editorUndoAllUptoCard : Claim7 := { stood := { row := editorUndoAllUptoRow, standIns := [], harness := (true, "eced605825168e1d8023b1549c972621e83833b1a17d4a50dc3649740fc5e4c1"), looks := false }, kinds := [], alts := [], laidByText := true, laidKinds := [.data, .widerDeep], laidTests := true, laidLooks := .later }
def EditorUndoAllUptoCardSaid : Prop := Claim7.holds Tryz.pinned (.plain (OpenSpec.upto editorUndoAllSpec)) editorUndoAllUptoCard

/-- THE SECOND FORM's CARD OF 'pandectlaw51.EditorStands'. -/
def editorStandsUptoCard : Claim7 := { stood := { row := editorStandsUptoRow, standIns := [], harness := (true, "eced605825168e1d8023b1549c972621e83833b1a17d4a50dc3649740fc5e4c1"), looks := false }, kinds := [], alts := [], laidByText := true, laidKinds := [.data, .widerDeep], laidTests := true, laidLooks := .later }
def EditorStandsUptoCardSaid : Prop := Claim7.holds Tryz.pinned (.plain (OpenSpec.upto editorStandsSpec)) editorStandsUptoCard

/-- THE SECOND FORM's CARD OF 'pandectlaw51.EditorOpen'. -/
def editorOpenUptoCard : Claim7 := { stood := { row := editorOpenUptoRow, standIns := [], harness := (true, "eced605825168e1d8023b1549c972621e83833b1a17d4a50dc3649740fc5e4c1"), looks := false }, kinds := [], alts := [], laidByText := true, laidKinds := [.data, .widerDeep], laidTests := true, laidLooks := .later }
def EditorOpenUptoCardSaid : Prop := Claim7.holds Tryz.pinned (.plain (OpenSpec.upto editorOpenSpec)) editorOpenUptoCard

/-- THE SECOND FORM's CARD OF 'pandectlaw51.EditorSession'. -/
def editorSessionUptoCard : Claim7 := { stood := { row := editorSessionUptoRow, standIns := [], harness := (true, "eced605825168e1d8023b1549c972621e83833b1a17d4a50dc3649740fc5e4c1"), looks := false }, kinds := [], alts := [], laidByText := true, laidKinds := [.data, .widerDeep], laidTests := true, laidLooks := .later }
def EditorSessionUptoCardSaid : Prop := Claim7.holds Tryz.pinned (.plain (OpenSpec.upto editorSessionSpec)) editorSessionUptoCard

/-- THE SECOND FORM's CARD OF 'pandectlaw51.EditorReplay'. -/
def editorReplayUptoCard : Claim7 := { stood := { row := editorReplayUptoRow, standIns := [], harness := (true, "eced605825168e1d8023b1549c972621e83833b1a17d4a50dc3649740fc5e4c1"), looks := false }, kinds := [], alts := [], laidByText := true, laidKinds := [.data, .widerDeep], laidTests := true, laidLooks := .later }
def EditorReplayUptoCardSaid : Prop := Claim7.holds Tryz.pinned (.plain (OpenSpec.upto editorReplaySpec)) editorReplayUptoCard

/-- THE SECOND FORM's CARD OF 'pandectlaw51.EditorClone'. -/
def editorCloneUptoCard : Claim7 := { stood := { row := editorCloneUptoRow, standIns := [], harness := (true, "eced605825168e1d8023b1549c972621e83833b1a17d4a50dc3649740fc5e4c1"), looks := false }, kinds := [], alts := [], laidByText := true, laidKinds := [.data, .widerDeep], laidTests := true, laidLooks := .later }
def EditorCloneUptoCardSaid : Prop := Claim7.holds Tryz.pinned (.plain (OpenSpec.upto editorCloneSpec)) editorCloneUptoCard
end Rows
end Go.Proofs.YtlfohdkfpdkhhaaGreatDoor
