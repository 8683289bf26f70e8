/-
  DERIVED. GIVEN WITH THE SEED: THE CARDS: each row of YthgakeblgjncdaaGreatDoorRows.lean that lists a variable, with what it lists TIED to the program's text (the seventh form; the later family's looks); each row that meets fmt, with fmt's text TOLD by the authors' own Lean function (tested against real Go, not proved from fmt's source: count such statements apart). THE CARD IS WHAT COUNTS. Prove the row's statement (the work); the ties are given (YthgakeblgjncdaaGreatDoorTie.lean); close each card by the builder's one call (the guide's Derived/Test/ToyasCard.lean, 'card_holds'). Laid BY PROGRAM, IN A SANDBOX (cutbox-door.mjs). By AI agents, Wed Nov 11 2026. No macro, syntax, notation, axiom, sorry.
-/
import Derived.Test.YthgakeblgjncdaaGreatDoorRows
import GoSem.ClaimSeven
namespace Go.Proofs.YthgakeblgjncdaaGreatDoor
namespace Rows

/-- THE TIED CARD OF 'warehousetop.TopRenames'. -/
def topRenamesCard : Claim7 := { stood := { row := topRenamesRow, standIns := [], harness := (true, "d8fe4e369cced89eecd77aac334d0c7b39ea9e6780b278b9df710c76123f2a7d"), looks := false }, kinds := [], alts := [], laidByText := true, laidKinds := [.data, .widerDeep, .widerDeep, .data], laidTests := true, laidLooks := .later }
def TopRenamesCardSaid : Prop := Claim7.holds Tryz.pinned (.plain (OpenSpec.ofChange topRenamesSpec)) topRenamesCard

/-- THE SECOND FORM's CARD OF 'warehousetop.TopRenames'. -/
def topRenamesUptoCard : Claim7 := { stood := { row := topRenamesUptoRow, standIns := [], harness := (true, "d8fe4e369cced89eecd77aac334d0c7b39ea9e6780b278b9df710c76123f2a7d"), looks := false }, kinds := [], alts := [], laidByText := true, laidKinds := [.data, .widerDeep, .widerDeep, .data], laidTests := true, laidLooks := .later }
def TopRenamesUptoCardSaid : Prop := Claim7.holds Tryz.pinned (.plain (OpenSpec.upto topRenamesSpec)) topRenamesUptoCard
end Rows
end Go.Proofs.YthgakeblgjncdaaGreatDoor
