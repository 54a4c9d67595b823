/-
  DERIVED. GIVEN WITH THE SEED: THE CARDS: each row of YtppebcifiejplaaGreatDoorRows.lean that lists a variable, with what it lists TIED to the program's text (the seventh form; the later family's looks); each row that meets fmt, with fmt's text TOLD by the authors' own Lean function (tested against real Go, not proved from fmt's source: count such statements apart). THE CARD IS WHAT COUNTS. Prove the row's statement (the work); the ties are given (YtppebcifiejplaaGreatDoorTie.lean); close each card by the builder's one call (the guide's Derived/Test/ToyasCard.lean, 'card_holds'). Laid BY PROGRAM, IN A SANDBOX (cutbox-door.mjs). By AI agents, Wed Nov 11 2026. No macro, syntax, notation, axiom, sorry.
-/
import Derived.Test.YtppebcifiejplaaGreatDoorRows
import GoSem.ClaimSeven
namespace Go.Proofs.YtppebcifiejplaaGreatDoor
namespace Rows

/-- THE TIED CARD OF 'pandecttop.TopPersistent'. -/
def topPersistentCard : Claim7 := { stood := { row := topPersistentRow, standIns := [], harness := (true, "3ab051678950f9fe572aacfa804904ee5e68b36b1f9e571f1a1b29bc012a89b7"), looks := false }, kinds := [], alts := [], laidByText := true, laidKinds := [.data, .widerDeep], laidTests := true, laidLooks := .later }
def TopPersistentCardSaid : Prop := Claim7.holds Tryz.pinned (.plain (OpenSpec.ofChange topPersistentSpec)) topPersistentCard

/-- THE TIED CARD OF 'pandecttop.TopRepeal'. -/
def topRepealCard : Claim7 := { stood := { row := topRepealRow, standIns := [], harness := (true, "3ab051678950f9fe572aacfa804904ee5e68b36b1f9e571f1a1b29bc012a89b7"), looks := false }, kinds := [], alts := [], laidByText := true, laidKinds := [.data, .data, .widerDeep, .funcs, .pinned], laidTests := true, laidLooks := .later }
def TopRepealCardSaid : Prop := Claim7.holds Tryz.pinned (.plain (OpenSpec.ofChange topRepealSpec)) topRepealCard

/-- THE SECOND FORM's CARD OF 'pandecttop.TopPersistent'. -/
def topPersistentUptoCard : Claim7 := { stood := { row := topPersistentUptoRow, standIns := [], harness := (true, "3ab051678950f9fe572aacfa804904ee5e68b36b1f9e571f1a1b29bc012a89b7"), looks := false }, kinds := [], alts := [], laidByText := true, laidKinds := [.data, .widerDeep], laidTests := true, laidLooks := .later }
def TopPersistentUptoCardSaid : Prop := Claim7.holds Tryz.pinned (.plain (OpenSpec.upto topPersistentSpec)) topPersistentUptoCard

/-- THE SECOND FORM's CARD OF 'pandecttop.TopRepeal'. -/
def topRepealUptoCard : Claim7 := { stood := { row := topRepealUptoRow, standIns := [], harness := (true, "3ab051678950f9fe572aacfa804904ee5e68b36b1f9e571f1a1b29bc012a89b7"), looks := false }, kinds := [], alts := [], laidByText := true, laidKinds := [.data, .data, .widerDeep, .funcs, .pinned], laidTests := true, laidLooks := .later }
def TopRepealUptoCardSaid : Prop := Claim7.holds Tryz.pinned (.plain (OpenSpec.upto topRepealSpec)) topRepealUptoCard
end Rows
end Go.Proofs.YtppebcifiejplaaGreatDoor
