/-
  DERIVED. GIVEN WITH THE SEED: THE CARDS: each row of YtmipgnoabloclaaGreatDoorRows.lean that lists a variable, with what it lists TIED to the program's text (the seventh form; the later family's looks); each row that meets fmt, with fmt's text TOLD by the authors' own Lean function (tested against real Go, not proved from fmt's source: count such statements apart). THE CARD IS WHAT COUNTS. Prove the row's statement (the work); the ties are given (YtmipgnoabloclaaGreatDoorTie.lean); close each card by the builder's one call (the guide's Derived/Test/ToyasCard.lean, 'card_holds'). Laid BY PROGRAM, IN A SANDBOX (cutbox-door.mjs). By AI agents, Wed Nov 11 2026. No macro, syntax, notation, axiom, sorry.
-/
import Derived.Test.YtmipgnoabloclaaGreatDoorRows
import GoSem.ClaimSeven
namespace Go.Proofs.YtmipgnoabloclaaGreatDoor
namespace Rows

/-- THE TIED CARD OF 'warehousetop.TopFilters'. -/
def topFiltersCard : Claim7 := { stood := { row := topFiltersRow, standIns := [], harness := (true, "8f4fd1ec0c79570599196c859ba11e52096ad25869f7e6e9c4edee529458354e"), looks := false }, kinds := [], alts := [], laidByText := true, laidKinds := [.data, .widerDeep, .widerDeep, .data], laidTests := true, laidLooks := .later }
def TopFiltersCardSaid : Prop := Claim7.holds Tryz.pinned (.plain (OpenSpec.ofChange topFiltersSpec)) topFiltersCard

/-- THE SECOND FORM's CARD OF 'warehousetop.TopFilters'. -/
def topFiltersUptoCard : Claim7 := { stood := { row := topFiltersUptoRow, standIns := [], harness := (true, "8f4fd1ec0c79570599196c859ba11e52096ad25869f7e6e9c4edee529458354e"), looks := false }, kinds := [], alts := [], laidByText := true, laidKinds := [.data, .widerDeep, .widerDeep, .data], laidTests := true, laidLooks := .later }
def TopFiltersUptoCardSaid : Prop := Claim7.holds Tryz.pinned (.plain (OpenSpec.upto topFiltersSpec)) topFiltersUptoCard
end Rows
end Go.Proofs.YtmipgnoabloclaaGreatDoor
