/-
  DERIVED. GIVEN WITH THE SEED: THE CARDS: each row of YtjfjpaggdmafeaaGreatDoorRows.lean that lists a variable, with what it lists TIED to the program's text (the seventh form; the later family's looks); each row that meets fmt, with fmt's text TOLD by the authors' own Lean function (tested against real Go, not proved from fmt's source: count such statements apart). THE CARD IS WHAT COUNTS. Prove the row's statement (the work); the ties are given (YtjfjpaggdmafeaaGreatDoorTie.lean); close each card by the builder's one call (the guide's Derived/Test/ToyasCard.lean, 'card_holds'). Laid BY PROGRAM, IN A SANDBOX (cutbox-door.mjs). By AI agents, Wed Nov 11 2026. No macro, syntax, notation, axiom, sorry.
-/
import Derived.Test.YtjfjpaggdmafeaaGreatDoorRows
import GoSem.ClaimSeven
namespace Go.Proofs.YtjfjpaggdmafeaaGreatDoor
namespace Rows

/-- THE TIED CARD OF 'warehousetop.TopMacros'. -/
def topMacrosCard : Claim7 := { stood := { row := topMacrosRow, standIns := [], harness := (true, "c53f276034ca2514237f0848f3d66c6335e597fb60ec22d78af9e31a942c4874"), looks := false }, kinds := [], alts := [], laidByText := true, laidKinds := [.data, .widerDeep, .widerDeep, .widerDeep, .data], laidTests := true, laidLooks := .later }
def TopMacrosCardSaid : Prop := Claim7.holds Tryz.pinned (.plain (OpenSpec.ofChange topMacrosSpec)) topMacrosCard

/-- THE SECOND FORM's CARD OF 'warehousetop.TopMacros'. -/
def topMacrosUptoCard : Claim7 := { stood := { row := topMacrosUptoRow, standIns := [], harness := (true, "c53f276034ca2514237f0848f3d66c6335e597fb60ec22d78af9e31a942c4874"), looks := false }, kinds := [], alts := [], laidByText := true, laidKinds := [.data, .widerDeep, .widerDeep, .widerDeep, .data], laidTests := true, laidLooks := .later }
def TopMacrosUptoCardSaid : Prop := Claim7.holds Tryz.pinned (.plain (OpenSpec.upto topMacrosSpec)) topMacrosUptoCard
end Rows
end Go.Proofs.YtjfjpaggdmafeaaGreatDoor
