/-
  No cell of these rows narrows 'for every input' (looked for: loops, veiled, ifaces, maps, wideKeys, modest, calm, conditions, laid).
  DERIVED. THE GIVEN ROWS OF THIS SEAT. 6 by the template 'for every input the law returns true; each argument reads behind the call as it read before'; 0 by the template 'total and deterministic' (their statements: YtmomepfdfmjceaaTotals.lean).
  GIVEN WITH THE SEED: the statements are not yours to turn. If you find one false, say at which input.
  Laid BY PROGRAM, IN A SANDBOX (cutbox-rows.mjs): the forced cells as the released guide's own fill.sh prints them over the translation fb2f95c0ef6db09a… (all of the seat's roots in one cut). By AI agents, Wed Nov 11 2026. No macro, syntax, notation, axiom, sorry.
-/
import Derived.Test.YtmomepfdfmjceaaChecked
import GoSem.Claim
import GoSem.ClaimJoined
import GoSem.ClaimMapViews
import Derived.JoinedTies
import Derived.KernelRfl
namespace Go.Proofs.Ytmomepfdfmjceaa
/- THE CELL 'sum', in the pinned program and in every row, IS THE sha256 OF THE DUMP (.gsa) THAT YtmomepfdfmjceaaProg.lean LOADS. Nothing in Lean hashes anything: it is a label: what it is worth is what the hold of that sum in a sandbox is worth. -/
noncomputable def Try.pinned : Pinned := { name := "ytmomepfdfmjceaa", sum := "fb2f95c0ef6db09af62b06148bf00b190d9e560123e68dd40dd1579e03b4d11b", checked := Try.checked }
namespace Rows
def none {H : Type} : Left H := { results := [], args := [] }

/-- 'warehouselaw17.AggregateAdds': WHATEVER THE INPUT: true; the input reads as it did. -/
def aggregateAddsSpec : ChangeSpec := { name := "aggregateAdds", fn := fun _ => fun
  | [d1, d2, d3, d4, d5] => { results := [.lit (.bool true)], args := [d1, d2, d3, d4, d5] }
  | _ => none }
def aggregateAddsRow : OpenClaim := { program := "ytmomepfdfmjceaa", sum := "fb2f95c0ef6db09af62b06148bf00b190d9e560123e68dd40dd1579e03b4d11b", func := "warehouse/warehouselaw17.AggregateAdds", spec := "aggregateAdds", unfollowed := true, recurses := true, apart := false }
def AggregateAddsSaid : Prop := aggregateAddsRow.holds Try.pinned (OpenSpec.ofChange aggregateAddsSpec)

/-- ITS FALSE NEIGHBOUR: 'it returns false'. Refute it at one input. -/
def aggregateAddsWrong : ChangeSpec := { name := "aggregateAdds", fn := fun _ => fun
  | [d1, d2, d3, d4, d5] => { results := [.lit (.bool false)], args := [d1, d2, d3, d4, d5] }
  | _ => none }
def AggregateAddsWrongFalsely : Prop := aggregateAddsRow.holds Try.pinned (OpenSpec.ofChange aggregateAddsWrong)

/-- 'warehouselaw17.AggregateResults': WHATEVER THE INPUT: true; the input reads as it did. -/
def aggregateResultsSpec : ChangeSpec := { name := "aggregateResults", fn := fun _ => fun
  | [d1, d2, d3, d4] => { results := [.lit (.bool true)], args := [d1, d2, d3, d4] }
  | _ => none }
def aggregateResultsRow : OpenClaim := { program := "ytmomepfdfmjceaa", sum := "fb2f95c0ef6db09af62b06148bf00b190d9e560123e68dd40dd1579e03b4d11b", func := "warehouse/warehouselaw17.AggregateResults", spec := "aggregateResults", unfollowed := true, recurses := true, apart := false }
def AggregateResultsSaid : Prop := aggregateResultsRow.holds Try.pinned (OpenSpec.ofChange aggregateResultsSpec)

/-- ITS FALSE NEIGHBOUR: 'it returns false'. Refute it at one input. -/
def aggregateResultsWrong : ChangeSpec := { name := "aggregateResults", fn := fun _ => fun
  | [d1, d2, d3, d4] => { results := [.lit (.bool false)], args := [d1, d2, d3, d4] }
  | _ => none }
def AggregateResultsWrongFalsely : Prop := aggregateResultsRow.holds Try.pinned (OpenSpec.ofChange aggregateResultsWrong)

/-- 'warehouselaw17.AggregateForgets': WHATEVER THE INPUT: true; the input reads as it did. -/
def aggregateForgetsSpec : ChangeSpec := { name := "aggregateForgets", fn := fun _ => fun
  | [d1, d2, d3] => { results := [.lit (.bool true)], args := [d1, d2, d3] }
  | _ => none }
def aggregateForgetsRow : OpenClaim := { program := "ytmomepfdfmjceaa", sum := "fb2f95c0ef6db09af62b06148bf00b190d9e560123e68dd40dd1579e03b4d11b", func := "warehouse/warehouselaw17.AggregateForgets", spec := "aggregateForgets", unfollowed := true, recurses := true, apart := false }
def AggregateForgetsSaid : Prop := aggregateForgetsRow.holds Try.pinned (OpenSpec.ofChange aggregateForgetsSpec)

/-- ITS FALSE NEIGHBOUR: 'it returns false'. Refute it at one input. -/
def aggregateForgetsWrong : ChangeSpec := { name := "aggregateForgets", fn := fun _ => fun
  | [d1, d2, d3] => { results := [.lit (.bool false)], args := [d1, d2, d3] }
  | _ => none }
def AggregateForgetsWrongFalsely : Prop := aggregateForgetsRow.holds Try.pinned (OpenSpec.ofChange aggregateForgetsWrong)

/-- 'warehouselaw17.AggregateOrders': WHATEVER THE INPUT: true; the input reads as it did. -/
def aggregateOrdersSpec : ChangeSpec := { name := "aggregateOrders", fn := fun _ => fun
  | [d1, d2, d3, d4] => { results := [.lit (.bool true)], args := [d1, d2, d3, d4] }
  | _ => none }
def aggregateOrdersRow : OpenClaim := { program := "ytmomepfdfmjceaa", sum := "fb2f95c0ef6db09af62b06148bf00b190d9e560123e68dd40dd1579e03b4d11b", func := "warehouse/warehouselaw17.AggregateOrders", spec := "aggregateOrders", unfollowed := true, recurses := true, apart := false }
def AggregateOrdersSaid : Prop := aggregateOrdersRow.holds Try.pinned (OpenSpec.ofChange aggregateOrdersSpec)

/-- ITS FALSE NEIGHBOUR: 'it returns false'. Refute it at one input. -/
def aggregateOrdersWrong : ChangeSpec := { name := "aggregateOrders", fn := fun _ => fun
  | [d1, d2, d3, d4] => { results := [.lit (.bool false)], args := [d1, d2, d3, d4] }
  | _ => none }
def AggregateOrdersWrongFalsely : Prop := aggregateOrdersRow.holds Try.pinned (OpenSpec.ofChange aggregateOrdersWrong)

/-- 'warehouselaw17.AggregateBounds': WHATEVER THE INPUT: true; the input reads as it did. -/
def aggregateBoundsSpec : ChangeSpec := { name := "aggregateBounds", fn := fun _ => fun
  | [d1, d2] => { results := [.lit (.bool true)], args := [d1, d2] }
  | _ => none }
def aggregateBoundsRow : OpenClaim := { program := "ytmomepfdfmjceaa", sum := "fb2f95c0ef6db09af62b06148bf00b190d9e560123e68dd40dd1579e03b4d11b", func := "warehouse/warehouselaw17.AggregateBounds", spec := "aggregateBounds", unfollowed := true, recurses := true, apart := false }
def AggregateBoundsSaid : Prop := aggregateBoundsRow.holds Try.pinned (OpenSpec.ofChange aggregateBoundsSpec)

/-- ITS FALSE NEIGHBOUR: 'it returns false'. Refute it at one input. -/
def aggregateBoundsWrong : ChangeSpec := { name := "aggregateBounds", fn := fun _ => fun
  | [d1, d2] => { results := [.lit (.bool false)], args := [d1, d2] }
  | _ => none }
def AggregateBoundsWrongFalsely : Prop := aggregateBoundsRow.holds Try.pinned (OpenSpec.ofChange aggregateBoundsWrong)

/-- 'warehouselaw17.AggregateMerges': WHATEVER THE INPUT: true; the input reads as it did. -/
def aggregateMergesSpec : ChangeSpec := { name := "aggregateMerges", fn := fun _ => fun
  | [d1, d2, d3, d4, d5] => { results := [.lit (.bool true)], args := [d1, d2, d3, d4, d5] }
  | _ => none }
def aggregateMergesRow : OpenClaim := { program := "ytmomepfdfmjceaa", sum := "fb2f95c0ef6db09af62b06148bf00b190d9e560123e68dd40dd1579e03b4d11b", func := "warehouse/warehouselaw17.AggregateMerges", spec := "aggregateMerges", unfollowed := true, recurses := true, apart := false }
def AggregateMergesSaid : Prop := aggregateMergesRow.holds Try.pinned (OpenSpec.ofChange aggregateMergesSpec)

/-- ITS FALSE NEIGHBOUR: 'it returns false'. Refute it at one input. -/
def aggregateMergesWrong : ChangeSpec := { name := "aggregateMerges", fn := fun _ => fun
  | [d1, d2, d3, d4, d5] => { results := [.lit (.bool false)], args := [d1, d2, d3, d4, d5] }
  | _ => none }
def AggregateMergesWrongFalsely : Prop := aggregateMergesRow.holds Try.pinned (OpenSpec.ofChange aggregateMergesWrong)

/- THE SECOND FORM. 'bulk': how many values and letters a reading holds, each counted each time it is reached (what is shared counts as often as it is met; a slice's spare places count too). A statement '..UptoSaid' is the law's where the arguments, and the package variables that the reading takes, are together of bulk at most 1048576: NARROWER than '..Said'. Prove '..Said' where nothing that the law and all that it calls make is longer than what came in: it says more and counts as full. Else prove '..UptoSaid'. A law counts once. -/
mutual
def uptoBulk {H : Type} : DataW H → Nat
  | .lit (.string bytes) => bytes.length + 1
  | .lit _ => 1
  | .nil => 1
  | .ptr d => uptoBulk d + 1
  | .slice elems spare => uptoBulkAll elems + uptoBulkAll spare + 1
  | .agg parts => uptoBulkAll parts + 1
  | .iface _ d => uptoBulk d + 1
  | .map entries => uptoBulkEntries entries + 1
  | .held _ => 1
def uptoBulkAll {H : Type} : List (DataW H) → Nat
  | [] => 0
  | d :: r => uptoBulk d + uptoBulkAll r
def uptoBulkEntries {H : Type} : List (Lit × DataW H) → Nat
  | [] => 0
  | x :: r => uptoBulkEntry x + uptoBulkEntries r
def uptoBulkEntry {H : Type} : Lit × DataW H → Nat
  | (.string bytes, d) => bytes.length + uptoBulk d + 1
  | (_, d) => uptoBulk d + 1
 end
def uptoSmall : (H : Type) → List (DataW H) → Bool := fun _ ds => decide (uptoBulkAll ds ≤ 1048576)
def OpenSpec.upto (s : _root_.Go.ChangeSpec) : _root_.Go.OpenSpec := { _root_.Go.OpenSpec.ofChange s with cond := some uptoSmall }

/-- 'warehouselaw17.AggregateAdds', WHERE WHAT IT READS IS OF BULK AT MOST 1048576: true; the input reads as it did. -/
def aggregateAddsUptoRow : OpenClaim := { program := "ytmomepfdfmjceaa", sum := "fb2f95c0ef6db09af62b06148bf00b190d9e560123e68dd40dd1579e03b4d11b", func := "warehouse/warehouselaw17.AggregateAdds", spec := "aggregateAdds", unfollowed := true, recurses := true, apart := false, narrowed := true }
def AggregateAddsUptoSaid : Prop := aggregateAddsUptoRow.holds Try.pinned (OpenSpec.upto aggregateAddsSpec)

/-- 'warehouselaw17.AggregateResults', WHERE WHAT IT READS IS OF BULK AT MOST 1048576: true; the input reads as it did. -/
def aggregateResultsUptoRow : OpenClaim := { program := "ytmomepfdfmjceaa", sum := "fb2f95c0ef6db09af62b06148bf00b190d9e560123e68dd40dd1579e03b4d11b", func := "warehouse/warehouselaw17.AggregateResults", spec := "aggregateResults", unfollowed := true, recurses := true, apart := false, narrowed := true }
def AggregateResultsUptoSaid : Prop := aggregateResultsUptoRow.holds Try.pinned (OpenSpec.upto aggregateResultsSpec)

/-- 'warehouselaw17.AggregateForgets', WHERE WHAT IT READS IS OF BULK AT MOST 1048576: true; the input reads as it did. -/
def aggregateForgetsUptoRow : OpenClaim := { program := "ytmomepfdfmjceaa", sum := "fb2f95c0ef6db09af62b06148bf00b190d9e560123e68dd40dd1579e03b4d11b", func := "warehouse/warehouselaw17.AggregateForgets", spec := "aggregateForgets", unfollowed := true, recurses := true, apart := false, narrowed := true }
def AggregateForgetsUptoSaid : Prop := aggregateForgetsUptoRow.holds Try.pinned (OpenSpec.upto aggregateForgetsSpec)

/-- 'warehouselaw17.AggregateOrders', WHERE WHAT IT READS IS OF BULK AT MOST 1048576: true; the input reads as it did. -/
def aggregateOrdersUptoRow : OpenClaim := { program := "ytmomepfdfmjceaa", sum := "fb2f95c0ef6db09af62b06148bf00b190d9e560123e68dd40dd1579e03b4d11b", func := "warehouse/warehouselaw17.AggregateOrders", spec := "aggregateOrders", unfollowed := true, recurses := true, apart := false, narrowed := true }
def AggregateOrdersUptoSaid : Prop := aggregateOrdersUptoRow.holds Try.pinned (OpenSpec.upto aggregateOrdersSpec)

/-- 'warehouselaw17.AggregateBounds', WHERE WHAT IT READS IS OF BULK AT MOST 1048576: true; the input reads as it did. -/
def aggregateBoundsUptoRow : OpenClaim := { program := "ytmomepfdfmjceaa", sum := "fb2f95c0ef6db09af62b06148bf00b190d9e560123e68dd40dd1579e03b4d11b", func := "warehouse/warehouselaw17.AggregateBounds", spec := "aggregateBounds", unfollowed := true, recurses := true, apart := false, narrowed := true }
def AggregateBoundsUptoSaid : Prop := aggregateBoundsUptoRow.holds Try.pinned (OpenSpec.upto aggregateBoundsSpec)

/-- 'warehouselaw17.AggregateMerges', WHERE WHAT IT READS IS OF BULK AT MOST 1048576: true; the input reads as it did. -/
def aggregateMergesUptoRow : OpenClaim := { program := "ytmomepfdfmjceaa", sum := "fb2f95c0ef6db09af62b06148bf00b190d9e560123e68dd40dd1579e03b4d11b", func := "warehouse/warehouselaw17.AggregateMerges", spec := "aggregateMerges", unfollowed := true, recurses := true, apart := false, narrowed := true }
def AggregateMergesUptoSaid : Prop := aggregateMergesUptoRow.holds Try.pinned (OpenSpec.upto aggregateMergesSpec)

end Rows
end Go.Proofs.Ytmomepfdfmjceaa
