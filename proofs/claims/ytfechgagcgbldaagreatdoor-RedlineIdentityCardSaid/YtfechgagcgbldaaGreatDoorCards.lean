/-
  DERIVED. GIVEN WITH THE SEED: THE CARDS: each row of YtfechgagcgbldaaGreatDoorRows.lean that lists a variable, with what it lists TIED to the program's text (the seventh form; the later family's looks); each row that meets fmt, with fmt's text TOLD by the authors' own Lean function (tested against real Go, not proved from fmt's source: count such statements apart). THE CARD IS WHAT COUNTS. Prove the row's statement (the work); the ties are given (YtfechgagcgbldaaGreatDoorTie.lean); close each card by the builder's one call (the guide's Derived/Test/ToyasCard.lean, 'card_holds'). Laid BY PROGRAM, IN A SANDBOX (cutbox-door.mjs). By AI agents, Wed Nov 11 2026. No macro, syntax, notation, axiom, sorry.
-/
import Derived.Test.YtfechgagcgbldaaGreatDoorRows
import GoSem.ClaimSeven
namespace Go.Proofs.YtfechgagcgbldaaGreatDoor
namespace Rows

/-- THE TIED CARD OF 'pandectlaw50.RedlineDiffs'. -/
def redlineDiffsCard : Claim7 := { stood := { row := redlineDiffsRow, standIns := [], harness := (true, "e21d35897753e33cd60381718fbdce31844622e5bbfdea013148eb99bb464273"), looks := false }, kinds := [], alts := [], laidByText := true, laidKinds := [.data, .widerDeep], laidTests := true, laidLooks := .later }
def RedlineDiffsCardSaid : Prop := Claim7.holds Tryz.pinned (.plain (OpenSpec.ofChange redlineDiffsSpec)) redlineDiffsCard

/-- THE TIED CARD OF 'pandectlaw50.RedlineIdentity'. -/
def redlineIdentityCard : Claim7 := { stood := { row := redlineIdentityRow, standIns := [], harness := (true, "e21d35897753e33cd60381718fbdce31844622e5bbfdea013148eb99bb464273"), looks := false }, kinds := [], alts := [], laidByText := true, laidKinds := [.data, .widerDeep], laidTests := true, laidLooks := .later }
def RedlineIdentityCardSaid : Prop := Claim7.holds Tryz.pinned (.plain (OpenSpec.ofChange redlineIdentitySpec)) redlineIdentityCard

/-- THE TIED CARD OF 'pandectlaw50.RedlineRestores'. -/
def redlineRestoresCard : Claim7 := { stood := { row := redlineRestoresRow, standIns := [], harness := (true, "e21d35897753e33cd60381718fbdce31844622e5bbfdea013148eb99bb464273"), looks := false }, kinds := [], alts := [], laidByText := true, laidKinds := [.data, .widerDeep], laidTests := true, laidLooks := .later }
def RedlineRestoresCardSaid : Prop := Claim7.holds Tryz.pinned (.plain (OpenSpec.ofChange redlineRestoresSpec)) redlineRestoresCard

/-- THE SECOND FORM's CARD OF 'pandectlaw50.RedlineDiffs'. -/
def redlineDiffsUptoCard : Claim7 := { stood := { row := redlineDiffsUptoRow, standIns := [], harness := (true, "e21d35897753e33cd60381718fbdce31844622e5bbfdea013148eb99bb464273"), looks := false }, kinds := [], alts := [], laidByText := true, laidKinds := [.data, .widerDeep], laidTests := true, laidLooks := .later }
def RedlineDiffsUptoCardSaid : Prop := Claim7.holds Tryz.pinned (.plain (OpenSpec.upto redlineDiffsSpec)) redlineDiffsUptoCard

/-- THE SECOND FORM's CARD OF 'pandectlaw50.RedlineIdentity'. -/
def redlineIdentityUptoCard : Claim7 := { stood := { row := redlineIdentityUptoRow, standIns := [], harness := (true, "e21d35897753e33cd60381718fbdce31844622e5bbfdea013148eb99bb464273"), looks := false }, kinds := [], alts := [], laidByText := true, laidKinds := [.data, .widerDeep], laidTests := true, laidLooks := .later }
def RedlineIdentityUptoCardSaid : Prop := Claim7.holds Tryz.pinned (.plain (OpenSpec.upto redlineIdentitySpec)) redlineIdentityUptoCard

/-- THE SECOND FORM's CARD OF 'pandectlaw50.RedlineRestores'. -/
def redlineRestoresUptoCard : Claim7 := { stood := { row := redlineRestoresUptoRow, standIns := [], harness := (true, "e21d35897753e33cd60381718fbdce31844622e5bbfdea013148eb99bb464273"), looks := false }, kinds := [], alts := [], laidByText := true, laidKinds := [.data, .widerDeep], laidTests := true, laidLooks := .later }
def RedlineRestoresUptoCardSaid : Prop := Claim7.holds Tryz.pinned (.plain (OpenSpec.upto redlineRestoresSpec)) redlineRestoresUptoCard
end Rows
end Go.Proofs.YtfechgagcgbldaaGreatDoor
