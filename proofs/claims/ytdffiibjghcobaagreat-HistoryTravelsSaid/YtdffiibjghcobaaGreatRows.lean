/-
  No cell of these rows narrows 'for every input' (looked for: loops, veiled, ifaces, maps, wideKeys, modest, calm, conditions, laid).
  DERIVED. THE GIVEN ROWS OF THIS SEAT. 5 by the template 'for every input the law returns true; each argument reads behind the call as it read before'; 0 by the template 'total and deterministic' (their statements: YtdffiibjghcobaaGreatTotals.lean).
  GIVEN WITH THE SEED: the statements are not yours to turn. If you find one false, say at which input.
  Laid BY PROGRAM, IN A SANDBOX (cutbox-rows.mjs): the forced cells as the released guide's own fill.sh prints them over the translation fb4c0913e8aa2ff5… (all of the seat's roots in one cut). By AI agents, Wed Nov 11 2026. No macro, syntax, notation, axiom, sorry.
-/
import Derived.Test.YtdffiibjghcobaaGreatChecked
import GoSem.Claim
import GoSem.ClaimJoined
import GoSem.ClaimMapViews
import Derived.JoinedTies
import Derived.KernelRfl
namespace Go.Proofs.YtdffiibjghcobaaGreat
/- THE CELL 'sum', in the pinned program and in every row, IS THE sha256 OF THE DUMP (.gsa) THAT YtdffiibjghcobaaGreatProg.lean LOADS. Nothing in Lean hashes anything: it is a label: what it is worth is what the hold of that sum in a sandbox is worth. -/
noncomputable def Tryz.pinned : Pinned := { name := "ytdffiibjghcobaagreat", sum := "fb4c0913e8aa2ff557c70590240e8703ee1d8111ebc3adf3dc906c078368afd2", checked := Tryz.checked }
namespace Rows
def none {H : Type} : Left H := { results := [], args := [] }

/-- 'warehouselaw27.HistoryCorrects': WHATEVER THE INPUT: true; the input reads as it did. -/
def historyCorrectsSpec : ChangeSpec := { name := "historyCorrects", fn := fun _ => fun
  | [d1, d2, d3] => { results := [.lit (.bool true)], args := [d1, d2, d3] }
  | _ => none }
def historyCorrectsRow : OpenClaim := { program := "ytdffiibjghcobaagreat", sum := "fb4c0913e8aa2ff557c70590240e8703ee1d8111ebc3adf3dc906c078368afd2", func := "warehouse/warehouselaw27.HistoryCorrects", spec := "historyCorrects", unfollowed := true, recurses := true, apart := false }
def HistoryCorrectsSaid : Prop := historyCorrectsRow.holds Tryz.pinned (OpenSpec.ofChange historyCorrectsSpec)

/-- ITS FALSE NEIGHBOUR: 'it returns false'. Refute it at one input. -/
def historyCorrectsWrong : ChangeSpec := { name := "historyCorrects", fn := fun _ => fun
  | [d1, d2, d3] => { results := [.lit (.bool false)], args := [d1, d2, d3] }
  | _ => none }
def HistoryCorrectsWrongFalsely : Prop := historyCorrectsRow.holds Tryz.pinned (OpenSpec.ofChange historyCorrectsWrong)

/-- 'warehouselaw27.HistoryOrder': WHATEVER THE INPUT: true; the input reads as it did. -/
def historyOrderSpec : ChangeSpec := { name := "historyOrder", fn := fun _ => fun
  | [d1, d2, d3] => { results := [.lit (.bool true)], args := [d1, d2, d3] }
  | _ => none }
def historyOrderRow : OpenClaim := { program := "ytdffiibjghcobaagreat", sum := "fb4c0913e8aa2ff557c70590240e8703ee1d8111ebc3adf3dc906c078368afd2", func := "warehouse/warehouselaw27.HistoryOrder", spec := "historyOrder", unfollowed := true, recurses := true, apart := false }
def HistoryOrderSaid : Prop := historyOrderRow.holds Tryz.pinned (OpenSpec.ofChange historyOrderSpec)

/-- ITS FALSE NEIGHBOUR: 'it returns false'. Refute it at one input. -/
def historyOrderWrong : ChangeSpec := { name := "historyOrder", fn := fun _ => fun
  | [d1, d2, d3] => { results := [.lit (.bool false)], args := [d1, d2, d3] }
  | _ => none }
def HistoryOrderWrongFalsely : Prop := historyOrderRow.holds Tryz.pinned (OpenSpec.ofChange historyOrderWrong)

/-- 'warehouselaw27.HistoryKeys': WHATEVER THE INPUT: true; the input reads as it did. -/
def historyKeysSpec : ChangeSpec := { name := "historyKeys", fn := fun _ => fun
  | [d1, d2] => { results := [.lit (.bool true)], args := [d1, d2] }
  | _ => none }
def historyKeysRow : OpenClaim := { program := "ytdffiibjghcobaagreat", sum := "fb4c0913e8aa2ff557c70590240e8703ee1d8111ebc3adf3dc906c078368afd2", func := "warehouse/warehouselaw27.HistoryKeys", spec := "historyKeys", unfollowed := true, recurses := true, apart := false }
def HistoryKeysSaid : Prop := historyKeysRow.holds Tryz.pinned (OpenSpec.ofChange historyKeysSpec)

/-- ITS FALSE NEIGHBOUR: 'it returns false'. Refute it at one input. -/
def historyKeysWrong : ChangeSpec := { name := "historyKeys", fn := fun _ => fun
  | [d1, d2] => { results := [.lit (.bool false)], args := [d1, d2] }
  | _ => none }
def HistoryKeysWrongFalsely : Prop := historyKeysRow.holds Tryz.pinned (OpenSpec.ofChange historyKeysWrong)

/-- 'warehouselaw27.HistoryNow': WHATEVER THE INPUT: true; the input reads as it did. -/
def historyNowSpec : ChangeSpec := { name := "historyNow", fn := fun _ => fun
  | [d1, d2] => { results := [.lit (.bool true)], args := [d1, d2] }
  | _ => none }
def historyNowRow : OpenClaim := { program := "ytdffiibjghcobaagreat", sum := "fb4c0913e8aa2ff557c70590240e8703ee1d8111ebc3adf3dc906c078368afd2", func := "warehouse/warehouselaw27.HistoryNow", spec := "historyNow", unfollowed := true, recurses := true, apart := false }
def HistoryNowSaid : Prop := historyNowRow.holds Tryz.pinned (OpenSpec.ofChange historyNowSpec)

/-- ITS FALSE NEIGHBOUR: 'it returns false'. Refute it at one input. -/
def historyNowWrong : ChangeSpec := { name := "historyNow", fn := fun _ => fun
  | [d1, d2] => { results := [.lit (.bool false)], args := [d1, d2] }
  | _ => none }
def HistoryNowWrongFalsely : Prop := historyNowRow.holds Tryz.pinned (OpenSpec.ofChange historyNowWrong)

/-- 'warehouselaw27.HistoryTravels': WHATEVER THE INPUT: true; the input reads as it did. -/
def historyTravelsSpec : ChangeSpec := { name := "historyTravels", fn := fun _ => fun
  | [d1, d2, d3] => { results := [.lit (.bool true)], args := [d1, d2, d3] }
  | _ => none }
def historyTravelsRow : OpenClaim := { program := "ytdffiibjghcobaagreat", sum := "fb4c0913e8aa2ff557c70590240e8703ee1d8111ebc3adf3dc906c078368afd2", func := "warehouse/warehouselaw27.HistoryTravels", spec := "historyTravels", unfollowed := true, recurses := true, apart := false }
def HistoryTravelsSaid : Prop := historyTravelsRow.holds Tryz.pinned (OpenSpec.ofChange historyTravelsSpec)

/-- ITS FALSE NEIGHBOUR: 'it returns false'. Refute it at one input. -/
def historyTravelsWrong : ChangeSpec := { name := "historyTravels", fn := fun _ => fun
  | [d1, d2, d3] => { results := [.lit (.bool false)], args := [d1, d2, d3] }
  | _ => none }
def HistoryTravelsWrongFalsely : Prop := historyTravelsRow.holds Tryz.pinned (OpenSpec.ofChange historyTravelsWrong)

/- THE SECOND FORM. 'bulk': how many values and letters a reading holds, each counted each time it is reached (what is shared counts as often as it is met; a slice's spare places count too). A statement '..UptoSaid' is the law's where the arguments, and the package variables that the reading takes, are together of bulk at most 1048576: NARROWER than '..Said'. Prove '..Said' where nothing that the law and all that it calls make is longer than what came in: it says more and counts as full. Else prove '..UptoSaid'. A law counts once. -/
mutual
def uptoBulk {H : Type} : DataW H → Nat
  | .lit (.string bytes) => bytes.length + 1
  | .lit _ => 1
  | .nil => 1
  | .ptr d => uptoBulk d + 1
  | .slice elems spare => uptoBulkAll elems + uptoBulkAll spare + 1
  | .agg parts => uptoBulkAll parts + 1
  | .iface _ d => uptoBulk d + 1
  | .map entries => uptoBulkEntries entries + 1
  | .held _ => 1
def uptoBulkAll {H : Type} : List (DataW H) → Nat
  | [] => 0
  | d :: r => uptoBulk d + uptoBulkAll r
def uptoBulkEntries {H : Type} : List (Lit × DataW H) → Nat
  | [] => 0
  | x :: r => uptoBulkEntry x + uptoBulkEntries r
def uptoBulkEntry {H : Type} : Lit × DataW H → Nat
  | (.string bytes, d) => bytes.length + uptoBulk d + 1
  | (_, d) => uptoBulk d + 1
 end
def uptoSmall : (H : Type) → List (DataW H) → Bool := fun _ ds => decide (uptoBulkAll ds ≤ 1048576)
def OpenSpec.upto (s : _root_.Go.ChangeSpec) : _root_.Go.OpenSpec := { _root_.Go.OpenSpec.ofChange s with cond := some uptoSmall }

/-- 'warehouselaw27.HistoryCorrects', WHERE WHAT IT READS IS OF BULK AT MOST 1048576: true; the input reads as it did. -/
def historyCorrectsUptoRow : OpenClaim := { program := "ytdffiibjghcobaagreat", sum := "fb4c0913e8aa2ff557c70590240e8703ee1d8111ebc3adf3dc906c078368afd2", func := "warehouse/warehouselaw27.HistoryCorrects", spec := "historyCorrects", unfollowed := true, recurses := true, apart := false, narrowed := true }
def HistoryCorrectsUptoSaid : Prop := historyCorrectsUptoRow.holds Tryz.pinned (OpenSpec.upto historyCorrectsSpec)

/-- 'warehouselaw27.HistoryOrder', WHERE WHAT IT READS IS OF BULK AT MOST 1048576: true; the input reads as it did. -/
def historyOrderUptoRow : OpenClaim := { program := "ytdffiibjghcobaagreat", sum := "fb4c0913e8aa2ff557c70590240e8703ee1d8111ebc3adf3dc906c078368afd2", func := "warehouse/warehouselaw27.HistoryOrder", spec := "historyOrder", unfollowed := true, recurses := true, apart := false, narrowed := true }
def HistoryOrderUptoSaid : Prop := historyOrderUptoRow.holds Tryz.pinned (OpenSpec.upto historyOrderSpec)

/-- 'warehouselaw27.HistoryKeys', WHERE WHAT IT READS IS OF BULK AT MOST 1048576: true; the input reads as it did. -/
def historyKeysUptoRow : OpenClaim := { program := "ytdffiibjghcobaagreat", sum := "fb4c0913e8aa2ff557c70590240e8703ee1d8111ebc3adf3dc906c078368afd2", func := "warehouse/warehouselaw27.HistoryKeys", spec := "historyKeys", unfollowed := true, recurses := true, apart := false, narrowed := true }
def HistoryKeysUptoSaid : Prop := historyKeysUptoRow.holds Tryz.pinned (OpenSpec.upto historyKeysSpec)

/-- 'warehouselaw27.HistoryNow', WHERE WHAT IT READS IS OF BULK AT MOST 1048576: true; the input reads as it did. -/
def historyNowUptoRow : OpenClaim := { program := "ytdffiibjghcobaagreat", sum := "fb4c0913e8aa2ff557c70590240e8703ee1d8111ebc3adf3dc906c078368afd2", func := "warehouse/warehouselaw27.HistoryNow", spec := "historyNow", unfollowed := true, recurses := true, apart := false, narrowed := true }
def HistoryNowUptoSaid : Prop := historyNowUptoRow.holds Tryz.pinned (OpenSpec.upto historyNowSpec)

/-- 'warehouselaw27.HistoryTravels', WHERE WHAT IT READS IS OF BULK AT MOST 1048576: true; the input reads as it did. -/
def historyTravelsUptoRow : OpenClaim := { program := "ytdffiibjghcobaagreat", sum := "fb4c0913e8aa2ff557c70590240e8703ee1d8111ebc3adf3dc906c078368afd2", func := "warehouse/warehouselaw27.HistoryTravels", spec := "historyTravels", unfollowed := true, recurses := true, apart := false, narrowed := true }
def HistoryTravelsUptoSaid : Prop := historyTravelsUptoRow.holds Tryz.pinned (OpenSpec.upto historyTravelsSpec)

end Rows
end Go.Proofs.YtdffiibjghcobaaGreat
