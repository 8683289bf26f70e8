/-
  DERIVED. GIVEN WITH THE SEED: THE PROGRAM's TIES (one call each: nine closed facts by the kernel) AND EACH ROW's TIE, after the 31st guide's Derived/Test/Toyas{Tie, Card}.lean. No idea stands in it: it is a product of the set-up. Laid BY PROGRAM, IN A SANDBOX (cutbox-door.mjs). By AI agents, Wed Nov 11 2026. No macro, syntax, notation, axiom, sorry.
-/
import Derived.Test.YtjfjpaggdmafeaaGreatDoorRows
import Derived.LaidByTextLater
import Derived.SevenTiedAt
import Derived.LaidSub
import Derived.LaidOnce
namespace Go.Proofs.YtjfjpaggdmafeaaGreatDoor
open Go
set_option maxRecDepth 100000
theorem seatTie1 : Tryz.prog.laidByTextLater [("warehouse/civil.lengths", Rows.laid_warehouse_civil_lengths), ("warehouse/token.words", Rows.laid_warehouse_token_words), ("warehouse/token.symbols", Rows.laid_warehouse_token_symbols), ("warehouse/macro.builtin", Rows.laid_warehouse_macro_builtin), ("warehouse/query.used", Rows.laid_warehouse_query_used)] [.data, .widerDeep, .widerDeep, .widerDeep, .data] true :=
  Program.laidByTextLater_by_one 47 8 66 (by kernel_rfl) (by kernel_rfl) (by kernel_rfl) (by kernel_rfl) (by kernel_rfl) (by kernel_rfl) (fun _ _ => by kernel_rfl)
theorem noOwnUnsafe : Tryz.pinned.checked.prog.headLifts.contains "ownunsafe" = false := by kernel_rfl
theorem tie : Tryz.prog.laidByTextLater [("warehouse/civil.lengths", Rows.laid_warehouse_civil_lengths), ("warehouse/token.words", Rows.laid_warehouse_token_words), ("warehouse/token.symbols", Rows.laid_warehouse_token_symbols), ("warehouse/macro.builtin", Rows.laid_warehouse_macro_builtin), ("warehouse/query.used", Rows.laid_warehouse_query_used)] [.data, .widerDeep, .widerDeep, .widerDeep, .data] true :=
  Program.laidByTextLater.sub seatTie1 ["warehouse/civil.lengths", "warehouse/token.words", "warehouse/token.symbols", "warehouse/macro.builtin", "warehouse/query.used"] (by kernel_rfl) (by kernel_rfl)
theorem topMacros_row_tie : Rows.topMacrosRow.laidByTextAt .later Tryz.pinned [.data, .widerDeep, .widerDeep, .widerDeep, .data] true :=
  OpenClaim.laidByTextAt_later rfl rfl tie noOwnUnsafe
theorem topMacrosUpto_row_tie : Rows.topMacrosUptoRow.laidByTextAt .later Tryz.pinned [.data, .widerDeep, .widerDeep, .widerDeep, .data] true :=
  OpenClaim.laidByTextAt_later rfl rfl tie noOwnUnsafe
end Go.Proofs.YtjfjpaggdmafeaaGreatDoor
