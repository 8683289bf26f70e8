/-
  No cell of these rows narrows 'for every input' (looked for: loops, veiled, ifaces, maps, wideKeys, modest, calm, conditions, laid).
  DERIVED. THE GIVEN ROWS OF THIS SEAT. 14 by the template 'for every input the law returns true; each argument reads behind the call as it read before'; 0 by the template 'total and deterministic' (their statements: YtikifhfpiahnoaaTotals.lean).
  GIVEN WITH THE SEED: the statements are not yours to turn. If you find one false, say at which input.
  Laid BY PROGRAM, IN A SANDBOX (cutbox-rows.mjs): the forced cells as the released guide's own fill.sh prints them over the translation b777f56740adab4c… (all of the seat's roots in one cut). By AI agents, Wed Nov 11 2026. No macro, syntax, notation, axiom, sorry.
-/
import Derived.Test.YtikifhfpiahnoaaChecked
import GoSem.Claim
import GoSem.ClaimJoined
import GoSem.ClaimMapViews
import Derived.JoinedTies
import Derived.KernelRfl
namespace Go.Proofs.Ytikifhfpiahnoaa
/- THE CELL 'sum', in the pinned program and in every row, IS THE sha256 OF THE DUMP (.gsa) THAT YtikifhfpiahnoaaProg.lean LOADS. Nothing in Lean hashes anything: it is a label: what it is worth is what the hold of that sum in a sandbox is worth. -/
noncomputable def Try.pinned : Pinned := { name := "ytikifhfpiahnoaa", sum := "b777f56740adab4ced8cef2eb1c0876c4351ba74ee75d2ac836536b36d4c959c", checked := Try.checked }
namespace Rows
def none {H : Type} : Left H := { results := [], args := [] }

/-- 'warehouselaw1.ValueValidates': WHATEVER THE INPUT: true; the input reads as it did. -/
def valueValidatesSpec : ChangeSpec := { name := "valueValidates", fn := fun _ => fun
  | [d1, d2] => { results := [.lit (.bool true)], args := [d1, d2] }
  | _ => none }
def valueValidatesRow : OpenClaim := { program := "ytikifhfpiahnoaa", sum := "b777f56740adab4ced8cef2eb1c0876c4351ba74ee75d2ac836536b36d4c959c", func := "warehouse/warehouselaw1.ValueValidates", spec := "valueValidates", apart := false }
def ValueValidatesSaid : Prop := valueValidatesRow.holds Try.pinned (OpenSpec.ofChange valueValidatesSpec)

/-- ITS FALSE NEIGHBOUR: 'it returns false'. Refute it at one input. -/
def valueValidatesWrong : ChangeSpec := { name := "valueValidates", fn := fun _ => fun
  | [d1, d2] => { results := [.lit (.bool false)], args := [d1, d2] }
  | _ => none }
def ValueValidatesWrongFalsely : Prop := valueValidatesRow.holds Try.pinned (OpenSpec.ofChange valueValidatesWrong)

/-- 'warehouselaw1.ValueCompares': WHATEVER THE INPUT: true; the input reads as it did. -/
def valueComparesSpec : ChangeSpec := { name := "valueCompares", fn := fun _ => fun
  | [d1, d2, d3] => { results := [.lit (.bool true)], args := [d1, d2, d3] }
  | _ => none }
def valueComparesRow : OpenClaim := { program := "ytikifhfpiahnoaa", sum := "b777f56740adab4ced8cef2eb1c0876c4351ba74ee75d2ac836536b36d4c959c", func := "warehouse/warehouselaw1.ValueCompares", spec := "valueCompares", apart := false }
def ValueComparesSaid : Prop := valueComparesRow.holds Try.pinned (OpenSpec.ofChange valueComparesSpec)

/-- ITS FALSE NEIGHBOUR: 'it returns false'. Refute it at one input. -/
def valueComparesWrong : ChangeSpec := { name := "valueCompares", fn := fun _ => fun
  | [d1, d2, d3] => { results := [.lit (.bool false)], args := [d1, d2, d3] }
  | _ => none }
def ValueComparesWrongFalsely : Prop := valueComparesRow.holds Try.pinned (OpenSpec.ofChange valueComparesWrong)

/-- 'warehouselaw1.ValueTruths': WHATEVER THE INPUT: true; the input reads as it did. -/
def valueTruthsSpec : ChangeSpec := { name := "valueTruths", fn := fun _ => fun
  | [d1, d2] => { results := [.lit (.bool true)], args := [d1, d2] }
  | _ => none }
def valueTruthsRow : OpenClaim := { program := "ytikifhfpiahnoaa", sum := "b777f56740adab4ced8cef2eb1c0876c4351ba74ee75d2ac836536b36d4c959c", func := "warehouse/warehouselaw1.ValueTruths", spec := "valueTruths", apart := false }
def ValueTruthsSaid : Prop := valueTruthsRow.holds Try.pinned (OpenSpec.ofChange valueTruthsSpec)

/-- ITS FALSE NEIGHBOUR: 'it returns false'. Refute it at one input. -/
def valueTruthsWrong : ChangeSpec := { name := "valueTruths", fn := fun _ => fun
  | [d1, d2] => { results := [.lit (.bool false)], args := [d1, d2] }
  | _ => none }
def ValueTruthsWrongFalsely : Prop := valueTruthsRow.holds Try.pinned (OpenSpec.ofChange valueTruthsWrong)

/-- 'warehouselaw1.ValueEncodes': WHATEVER THE INPUT: true; the input reads as it did. -/
def valueEncodesSpec : ChangeSpec := { name := "valueEncodes", fn := fun _ => fun
  | [d1, d2, d3] => { results := [.lit (.bool true)], args := [d1, d2, d3] }
  | _ => none }
def valueEncodesRow : OpenClaim := { program := "ytikifhfpiahnoaa", sum := "b777f56740adab4ced8cef2eb1c0876c4351ba74ee75d2ac836536b36d4c959c", func := "warehouse/warehouselaw1.ValueEncodes", spec := "valueEncodes", apart := false }
def ValueEncodesSaid : Prop := valueEncodesRow.holds Try.pinned (OpenSpec.ofChange valueEncodesSpec)

/-- ITS FALSE NEIGHBOUR: 'it returns false'. Refute it at one input. -/
def valueEncodesWrong : ChangeSpec := { name := "valueEncodes", fn := fun _ => fun
  | [d1, d2, d3] => { results := [.lit (.bool false)], args := [d1, d2, d3] }
  | _ => none }
def ValueEncodesWrongFalsely : Prop := valueEncodesRow.holds Try.pinned (OpenSpec.ofChange valueEncodesWrong)

/-- 'warehouselaw1.ValueOrders': WHATEVER THE INPUT: true; the input reads as it did. -/
def valueOrdersSpec : ChangeSpec := { name := "valueOrders", fn := fun _ => fun
  | [d1, d2, d3, d4] => { results := [.lit (.bool true)], args := [d1, d2, d3, d4] }
  | _ => none }
def valueOrdersRow : OpenClaim := { program := "ytikifhfpiahnoaa", sum := "b777f56740adab4ced8cef2eb1c0876c4351ba74ee75d2ac836536b36d4c959c", func := "warehouse/warehouselaw1.ValueOrders", spec := "valueOrders", unfollowed := true, recurses := true, apart := false }
def ValueOrdersSaid : Prop := valueOrdersRow.holds Try.pinned (OpenSpec.ofChange valueOrdersSpec)

/-- ITS FALSE NEIGHBOUR: 'it returns false'. Refute it at one input. -/
def valueOrdersWrong : ChangeSpec := { name := "valueOrders", fn := fun _ => fun
  | [d1, d2, d3, d4] => { results := [.lit (.bool false)], args := [d1, d2, d3, d4] }
  | _ => none }
def ValueOrdersWrongFalsely : Prop := valueOrdersRow.holds Try.pinned (OpenSpec.ofChange valueOrdersWrong)

/-- 'warehouselaw1.ValueDecodes': WHATEVER THE INPUT: true; the input reads as it did. -/
def valueDecodesSpec : ChangeSpec := { name := "valueDecodes", fn := fun _ => fun
  | [d1, d2, d3, d4, d5] => { results := [.lit (.bool true)], args := [d1, d2, d3, d4, d5] }
  | _ => none }
def valueDecodesRow : OpenClaim := { program := "ytikifhfpiahnoaa", sum := "b777f56740adab4ced8cef2eb1c0876c4351ba74ee75d2ac836536b36d4c959c", func := "warehouse/warehouselaw1.ValueDecodes", spec := "valueDecodes", apart := false }
def ValueDecodesSaid : Prop := valueDecodesRow.holds Try.pinned (OpenSpec.ofChange valueDecodesSpec)

/-- ITS FALSE NEIGHBOUR: 'it returns false'. Refute it at one input. -/
def valueDecodesWrong : ChangeSpec := { name := "valueDecodes", fn := fun _ => fun
  | [d1, d2, d3, d4, d5] => { results := [.lit (.bool false)], args := [d1, d2, d3, d4, d5] }
  | _ => none }
def ValueDecodesWrongFalsely : Prop := valueDecodesRow.holds Try.pinned (OpenSpec.ofChange valueDecodesWrong)

/-- 'warehouselaw1.ValueRoundTrips': WHATEVER THE INPUT: true; the input reads as it did. -/
def valueRoundTripsSpec : ChangeSpec := { name := "valueRoundTrips", fn := fun _ => fun
  | [d1, d2, d3] => { results := [.lit (.bool true)], args := [d1, d2, d3] }
  | _ => none }
def valueRoundTripsRow : OpenClaim := { program := "ytikifhfpiahnoaa", sum := "b777f56740adab4ced8cef2eb1c0876c4351ba74ee75d2ac836536b36d4c959c", func := "warehouse/warehouselaw1.ValueRoundTrips", spec := "valueRoundTrips", unfollowed := true, recurses := true, apart := false }
def ValueRoundTripsSaid : Prop := valueRoundTripsRow.holds Try.pinned (OpenSpec.ofChange valueRoundTripsSpec)

/-- ITS FALSE NEIGHBOUR: 'it returns false'. Refute it at one input. -/
def valueRoundTripsWrong : ChangeSpec := { name := "valueRoundTrips", fn := fun _ => fun
  | [d1, d2, d3] => { results := [.lit (.bool false)], args := [d1, d2, d3] }
  | _ => none }
def ValueRoundTripsWrongFalsely : Prop := valueRoundTripsRow.holds Try.pinned (OpenSpec.ofChange valueRoundTripsWrong)

/-- 'warehouselaw5.SchemaNames': WHATEVER THE INPUT: true; the input reads as it did. -/
def schemaNamesSpec : ChangeSpec := { name := "schemaNames", fn := fun _ => fun
  | [d1, d2, d3] => { results := [.lit (.bool true)], args := [d1, d2, d3] }
  | _ => none }
def schemaNamesRow : OpenClaim := { program := "ytikifhfpiahnoaa", sum := "b777f56740adab4ced8cef2eb1c0876c4351ba74ee75d2ac836536b36d4c959c", func := "warehouse/warehouselaw5.SchemaNames", spec := "schemaNames", inPlace := ["internal/bytealg.IndexByteString", "internal/bytealg.IndexString"], unfollowed := true, recurses := true, named := ["internal/bytealg.MaxLen"], apart := false }
def SchemaNamesSaid : Prop := schemaNamesRow.holds Try.pinned (OpenSpec.ofChange schemaNamesSpec)

/-- ITS FALSE NEIGHBOUR: 'it returns false'. Refute it at one input. -/
def schemaNamesWrong : ChangeSpec := { name := "schemaNames", fn := fun _ => fun
  | [d1, d2, d3] => { results := [.lit (.bool false)], args := [d1, d2, d3] }
  | _ => none }
def SchemaNamesWrongFalsely : Prop := schemaNamesRow.holds Try.pinned (OpenSpec.ofChange schemaNamesWrong)

/-- 'warehouselaw5.SchemaFinds': WHATEVER THE INPUT: true; the input reads as it did. -/
def schemaFindsSpec : ChangeSpec := { name := "schemaFinds", fn := fun _ => fun
  | [d1, d2, d3, d4] => { results := [.lit (.bool true)], args := [d1, d2, d3, d4] }
  | _ => none }
def schemaFindsRow : OpenClaim := { program := "ytikifhfpiahnoaa", sum := "b777f56740adab4ced8cef2eb1c0876c4351ba74ee75d2ac836536b36d4c959c", func := "warehouse/warehouselaw5.SchemaFinds", spec := "schemaFinds", inPlace := ["internal/bytealg.IndexByteString", "internal/bytealg.IndexString"], unfollowed := true, recurses := true, named := ["internal/bytealg.MaxLen"], apart := false }
def SchemaFindsSaid : Prop := schemaFindsRow.holds Try.pinned (OpenSpec.ofChange schemaFindsSpec)

/-- ITS FALSE NEIGHBOUR: 'it returns false'. Refute it at one input. -/
def schemaFindsWrong : ChangeSpec := { name := "schemaFinds", fn := fun _ => fun
  | [d1, d2, d3, d4] => { results := [.lit (.bool false)], args := [d1, d2, d3, d4] }
  | _ => none }
def SchemaFindsWrongFalsely : Prop := schemaFindsRow.holds Try.pinned (OpenSpec.ofChange schemaFindsWrong)

/-- 'warehouselaw5.SchemaRows': WHATEVER THE INPUT: true; the input reads as it did. -/
def schemaRowsSpec : ChangeSpec := { name := "schemaRows", fn := fun _ => fun
  | [d1, d2, d3, d4] => { results := [.lit (.bool true)], args := [d1, d2, d3, d4] }
  | _ => none }
def schemaRowsRow : OpenClaim := { program := "ytikifhfpiahnoaa", sum := "b777f56740adab4ced8cef2eb1c0876c4351ba74ee75d2ac836536b36d4c959c", func := "warehouse/warehouselaw5.SchemaRows", spec := "schemaRows", inPlace := ["internal/bytealg.IndexByteString", "internal/bytealg.IndexString"], unfollowed := true, recurses := true, named := ["internal/bytealg.MaxLen"], apart := false }
def SchemaRowsSaid : Prop := schemaRowsRow.holds Try.pinned (OpenSpec.ofChange schemaRowsSpec)

/-- ITS FALSE NEIGHBOUR: 'it returns false'. Refute it at one input. -/
def schemaRowsWrong : ChangeSpec := { name := "schemaRows", fn := fun _ => fun
  | [d1, d2, d3, d4] => { results := [.lit (.bool false)], args := [d1, d2, d3, d4] }
  | _ => none }
def SchemaRowsWrongFalsely : Prop := schemaRowsRow.holds Try.pinned (OpenSpec.ofChange schemaRowsWrong)

/-- 'warehouselaw5.SchemaPicks': WHATEVER THE INPUT: true; the input reads as it did. -/
def schemaPicksSpec : ChangeSpec := { name := "schemaPicks", fn := fun _ => fun
  | [d1, d2, d3, d4] => { results := [.lit (.bool true)], args := [d1, d2, d3, d4] }
  | _ => none }
def schemaPicksRow : OpenClaim := { program := "ytikifhfpiahnoaa", sum := "b777f56740adab4ced8cef2eb1c0876c4351ba74ee75d2ac836536b36d4c959c", func := "warehouse/warehouselaw5.SchemaPicks", spec := "schemaPicks", inPlace := ["internal/bytealg.IndexByteString", "internal/bytealg.IndexString"], unfollowed := true, recurses := true, named := ["internal/bytealg.MaxLen"], apart := false }
def SchemaPicksSaid : Prop := schemaPicksRow.holds Try.pinned (OpenSpec.ofChange schemaPicksSpec)

/-- ITS FALSE NEIGHBOUR: 'it returns false'. Refute it at one input. -/
def schemaPicksWrong : ChangeSpec := { name := "schemaPicks", fn := fun _ => fun
  | [d1, d2, d3, d4] => { results := [.lit (.bool false)], args := [d1, d2, d3, d4] }
  | _ => none }
def SchemaPicksWrongFalsely : Prop := schemaPicksRow.holds Try.pinned (OpenSpec.ofChange schemaPicksWrong)

/-- 'warehouselaw5.SchemaValidates': WHATEVER THE INPUT: true; the input reads as it did. -/
def schemaValidatesSpec : ChangeSpec := { name := "schemaValidates", fn := fun _ => fun
  | [d1, d2, d3] => { results := [.lit (.bool true)], args := [d1, d2, d3] }
  | _ => none }
def schemaValidatesRow : OpenClaim := { program := "ytikifhfpiahnoaa", sum := "b777f56740adab4ced8cef2eb1c0876c4351ba74ee75d2ac836536b36d4c959c", func := "warehouse/warehouselaw5.SchemaValidates", spec := "schemaValidates", inPlace := ["internal/bytealg.IndexByteString", "internal/bytealg.IndexString"], unfollowed := true, recurses := true, named := ["internal/bytealg.MaxLen"], apart := false }
def SchemaValidatesSaid : Prop := schemaValidatesRow.holds Try.pinned (OpenSpec.ofChange schemaValidatesSpec)

/-- ITS FALSE NEIGHBOUR: 'it returns false'. Refute it at one input. -/
def schemaValidatesWrong : ChangeSpec := { name := "schemaValidates", fn := fun _ => fun
  | [d1, d2, d3] => { results := [.lit (.bool false)], args := [d1, d2, d3] }
  | _ => none }
def SchemaValidatesWrongFalsely : Prop := schemaValidatesRow.holds Try.pinned (OpenSpec.ofChange schemaValidatesWrong)

/-- 'warehouselaw5.SchemaIndices': WHATEVER THE INPUT: true; the input reads as it did. -/
def schemaIndicesSpec : ChangeSpec := { name := "schemaIndices", fn := fun _ => fun
  | [d1, d2, d3, d4] => { results := [.lit (.bool true)], args := [d1, d2, d3, d4] }
  | _ => none }
def schemaIndicesRow : OpenClaim := { program := "ytikifhfpiahnoaa", sum := "b777f56740adab4ced8cef2eb1c0876c4351ba74ee75d2ac836536b36d4c959c", func := "warehouse/warehouselaw5.SchemaIndices", spec := "schemaIndices", inPlace := ["internal/bytealg.IndexByteString", "internal/bytealg.IndexString"], unfollowed := true, recurses := true, named := ["internal/bytealg.MaxLen"], apart := false }
def SchemaIndicesSaid : Prop := schemaIndicesRow.holds Try.pinned (OpenSpec.ofChange schemaIndicesSpec)

/-- ITS FALSE NEIGHBOUR: 'it returns false'. Refute it at one input. -/
def schemaIndicesWrong : ChangeSpec := { name := "schemaIndices", fn := fun _ => fun
  | [d1, d2, d3, d4] => { results := [.lit (.bool false)], args := [d1, d2, d3, d4] }
  | _ => none }
def SchemaIndicesWrongFalsely : Prop := schemaIndicesRow.holds Try.pinned (OpenSpec.ofChange schemaIndicesWrong)

/-- 'warehouselaw5.SchemaWidens': WHATEVER THE INPUT: true; the input reads as it did. -/
def schemaWidensSpec : ChangeSpec := { name := "schemaWidens", fn := fun _ => fun
  | [d1, d2, d3, d4, d5] => { results := [.lit (.bool true)], args := [d1, d2, d3, d4, d5] }
  | _ => none }
def schemaWidensRow : OpenClaim := { program := "ytikifhfpiahnoaa", sum := "b777f56740adab4ced8cef2eb1c0876c4351ba74ee75d2ac836536b36d4c959c", func := "warehouse/warehouselaw5.SchemaWidens", spec := "schemaWidens", inPlace := ["internal/bytealg.IndexByteString", "internal/bytealg.IndexString"], unfollowed := true, recurses := true, named := ["internal/bytealg.MaxLen"], apart := false }
def SchemaWidensSaid : Prop := schemaWidensRow.holds Try.pinned (OpenSpec.ofChange schemaWidensSpec)

/-- ITS FALSE NEIGHBOUR: 'it returns false'. Refute it at one input. -/
def schemaWidensWrong : ChangeSpec := { name := "schemaWidens", fn := fun _ => fun
  | [d1, d2, d3, d4, d5] => { results := [.lit (.bool false)], args := [d1, d2, d3, d4, d5] }
  | _ => none }
def SchemaWidensWrongFalsely : Prop := schemaWidensRow.holds Try.pinned (OpenSpec.ofChange schemaWidensWrong)

/- THE SECOND FORM. 'bulk': how many values and letters a reading holds, each counted each time it is reached (what is shared counts as often as it is met; a slice's spare places count too). A statement '..UptoSaid' is the law's where the arguments, and the package variables that the reading takes, are together of bulk at most 1048576: NARROWER than '..Said'. Prove '..Said' where nothing that the law and all that it calls make is longer than what came in: it says more and counts as full. Else prove '..UptoSaid'. A law counts once. -/
mutual
def uptoBulk {H : Type} : DataW H → Nat
  | .lit (.string bytes) => bytes.length + 1
  | .lit _ => 1
  | .nil => 1
  | .ptr d => uptoBulk d + 1
  | .slice elems spare => uptoBulkAll elems + uptoBulkAll spare + 1
  | .agg parts => uptoBulkAll parts + 1
  | .iface _ d => uptoBulk d + 1
  | .map entries => uptoBulkEntries entries + 1
  | .held _ => 1
def uptoBulkAll {H : Type} : List (DataW H) → Nat
  | [] => 0
  | d :: r => uptoBulk d + uptoBulkAll r
def uptoBulkEntries {H : Type} : List (Lit × DataW H) → Nat
  | [] => 0
  | x :: r => uptoBulkEntry x + uptoBulkEntries r
def uptoBulkEntry {H : Type} : Lit × DataW H → Nat
  | (.string bytes, d) => bytes.length + uptoBulk d + 1
  | (_, d) => uptoBulk d + 1
 end
def uptoSmall : (H : Type) → List (DataW H) → Bool := fun _ ds => decide (uptoBulkAll ds ≤ 1048576)
def OpenSpec.upto (s : _root_.Go.ChangeSpec) : _root_.Go.OpenSpec := { _root_.Go.OpenSpec.ofChange s with cond := some uptoSmall }

/-- 'warehouselaw1.ValueValidates', WHERE WHAT IT READS IS OF BULK AT MOST 1048576: true; the input reads as it did. -/
def valueValidatesUptoRow : OpenClaim := { program := "ytikifhfpiahnoaa", sum := "b777f56740adab4ced8cef2eb1c0876c4351ba74ee75d2ac836536b36d4c959c", func := "warehouse/warehouselaw1.ValueValidates", spec := "valueValidates", apart := false, narrowed := true }
def ValueValidatesUptoSaid : Prop := valueValidatesUptoRow.holds Try.pinned (OpenSpec.upto valueValidatesSpec)

/-- 'warehouselaw1.ValueCompares', WHERE WHAT IT READS IS OF BULK AT MOST 1048576: true; the input reads as it did. -/
def valueComparesUptoRow : OpenClaim := { program := "ytikifhfpiahnoaa", sum := "b777f56740adab4ced8cef2eb1c0876c4351ba74ee75d2ac836536b36d4c959c", func := "warehouse/warehouselaw1.ValueCompares", spec := "valueCompares", apart := false, narrowed := true }
def ValueComparesUptoSaid : Prop := valueComparesUptoRow.holds Try.pinned (OpenSpec.upto valueComparesSpec)

/-- 'warehouselaw1.ValueTruths', WHERE WHAT IT READS IS OF BULK AT MOST 1048576: true; the input reads as it did. -/
def valueTruthsUptoRow : OpenClaim := { program := "ytikifhfpiahnoaa", sum := "b777f56740adab4ced8cef2eb1c0876c4351ba74ee75d2ac836536b36d4c959c", func := "warehouse/warehouselaw1.ValueTruths", spec := "valueTruths", apart := false, narrowed := true }
def ValueTruthsUptoSaid : Prop := valueTruthsUptoRow.holds Try.pinned (OpenSpec.upto valueTruthsSpec)

/-- 'warehouselaw1.ValueEncodes', WHERE WHAT IT READS IS OF BULK AT MOST 1048576: true; the input reads as it did. -/
def valueEncodesUptoRow : OpenClaim := { program := "ytikifhfpiahnoaa", sum := "b777f56740adab4ced8cef2eb1c0876c4351ba74ee75d2ac836536b36d4c959c", func := "warehouse/warehouselaw1.ValueEncodes", spec := "valueEncodes", apart := false, narrowed := true }
def ValueEncodesUptoSaid : Prop := valueEncodesUptoRow.holds Try.pinned (OpenSpec.upto valueEncodesSpec)

/-- 'warehouselaw1.ValueOrders', WHERE WHAT IT READS IS OF BULK AT MOST 1048576: true; the input reads as it did. -/
def valueOrdersUptoRow : OpenClaim := { program := "ytikifhfpiahnoaa", sum := "b777f56740adab4ced8cef2eb1c0876c4351ba74ee75d2ac836536b36d4c959c", func := "warehouse/warehouselaw1.ValueOrders", spec := "valueOrders", unfollowed := true, recurses := true, apart := false, narrowed := true }
def ValueOrdersUptoSaid : Prop := valueOrdersUptoRow.holds Try.pinned (OpenSpec.upto valueOrdersSpec)

/-- 'warehouselaw1.ValueDecodes', WHERE WHAT IT READS IS OF BULK AT MOST 1048576: true; the input reads as it did. -/
def valueDecodesUptoRow : OpenClaim := { program := "ytikifhfpiahnoaa", sum := "b777f56740adab4ced8cef2eb1c0876c4351ba74ee75d2ac836536b36d4c959c", func := "warehouse/warehouselaw1.ValueDecodes", spec := "valueDecodes", apart := false, narrowed := true }
def ValueDecodesUptoSaid : Prop := valueDecodesUptoRow.holds Try.pinned (OpenSpec.upto valueDecodesSpec)

/-- 'warehouselaw1.ValueRoundTrips', WHERE WHAT IT READS IS OF BULK AT MOST 1048576: true; the input reads as it did. -/
def valueRoundTripsUptoRow : OpenClaim := { program := "ytikifhfpiahnoaa", sum := "b777f56740adab4ced8cef2eb1c0876c4351ba74ee75d2ac836536b36d4c959c", func := "warehouse/warehouselaw1.ValueRoundTrips", spec := "valueRoundTrips", unfollowed := true, recurses := true, apart := false, narrowed := true }
def ValueRoundTripsUptoSaid : Prop := valueRoundTripsUptoRow.holds Try.pinned (OpenSpec.upto valueRoundTripsSpec)

/-- 'warehouselaw5.SchemaNames', WHERE WHAT IT READS IS OF BULK AT MOST 1048576: true; the input reads as it did. -/
def schemaNamesUptoRow : OpenClaim := { program := "ytikifhfpiahnoaa", sum := "b777f56740adab4ced8cef2eb1c0876c4351ba74ee75d2ac836536b36d4c959c", func := "warehouse/warehouselaw5.SchemaNames", spec := "schemaNames", inPlace := ["internal/bytealg.IndexByteString", "internal/bytealg.IndexString"], unfollowed := true, recurses := true, named := ["internal/bytealg.MaxLen"], apart := false, narrowed := true }
def SchemaNamesUptoSaid : Prop := schemaNamesUptoRow.holds Try.pinned (OpenSpec.upto schemaNamesSpec)

/-- 'warehouselaw5.SchemaFinds', WHERE WHAT IT READS IS OF BULK AT MOST 1048576: true; the input reads as it did. -/
def schemaFindsUptoRow : OpenClaim := { program := "ytikifhfpiahnoaa", sum := "b777f56740adab4ced8cef2eb1c0876c4351ba74ee75d2ac836536b36d4c959c", func := "warehouse/warehouselaw5.SchemaFinds", spec := "schemaFinds", inPlace := ["internal/bytealg.IndexByteString", "internal/bytealg.IndexString"], unfollowed := true, recurses := true, named := ["internal/bytealg.MaxLen"], apart := false, narrowed := true }
def SchemaFindsUptoSaid : Prop := schemaFindsUptoRow.holds Try.pinned (OpenSpec.upto schemaFindsSpec)

/-- 'warehouselaw5.SchemaRows', WHERE WHAT IT READS IS OF BULK AT MOST 1048576: true; the input reads as it did. -/
def schemaRowsUptoRow : OpenClaim := { program := "ytikifhfpiahnoaa", sum := "b777f56740adab4ced8cef2eb1c0876c4351ba74ee75d2ac836536b36d4c959c", func := "warehouse/warehouselaw5.SchemaRows", spec := "schemaRows", inPlace := ["internal/bytealg.IndexByteString", "internal/bytealg.IndexString"], unfollowed := true, recurses := true, named := ["internal/bytealg.MaxLen"], apart := false, narrowed := true }
def SchemaRowsUptoSaid : Prop := schemaRowsUptoRow.holds Try.pinned (OpenSpec.upto schemaRowsSpec)

/-- 'warehouselaw5.SchemaPicks', WHERE WHAT IT READS IS OF BULK AT MOST 1048576: true; the input reads as it did. -/
def schemaPicksUptoRow : OpenClaim := { program := "ytikifhfpiahnoaa", sum := "b777f56740adab4ced8cef2eb1c0876c4351ba74ee75d2ac836536b36d4c959c", func := "warehouse/warehouselaw5.SchemaPicks", spec := "schemaPicks", inPlace := ["internal/bytealg.IndexByteString", "internal/bytealg.IndexString"], unfollowed := true, recurses := true, named := ["internal/bytealg.MaxLen"], apart := false, narrowed := true }
def SchemaPicksUptoSaid : Prop := schemaPicksUptoRow.holds Try.pinned (OpenSpec.upto schemaPicksSpec)

/-- 'warehouselaw5.SchemaValidates', WHERE WHAT IT READS IS OF BULK AT MOST 1048576: true; the input reads as it did. -/
def schemaValidatesUptoRow : OpenClaim := { program := "ytikifhfpiahnoaa", sum := "b777f56740adab4ced8cef2eb1c0876c4351ba74ee75d2ac836536b36d4c959c", func := "warehouse/warehouselaw5.SchemaValidates", spec := "schemaValidates", inPlace := ["internal/bytealg.IndexByteString", "internal/bytealg.IndexString"], unfollowed := true, recurses := true, named := ["internal/bytealg.MaxLen"], apart := false, narrowed := true }
def SchemaValidatesUptoSaid : Prop := schemaValidatesUptoRow.holds Try.pinned (OpenSpec.upto schemaValidatesSpec)

/-- 'warehouselaw5.SchemaIndices', WHERE WHAT IT READS IS OF BULK AT MOST 1048576: true; the input reads as it did. -/
def schemaIndicesUptoRow : OpenClaim := { program := "ytikifhfpiahnoaa", sum := "b777f56740adab4ced8cef2eb1c0876c4351ba74ee75d2ac836536b36d4c959c", func := "warehouse/warehouselaw5.SchemaIndices", spec := "schemaIndices", inPlace := ["internal/bytealg.IndexByteString", "internal/bytealg.IndexString"], unfollowed := true, recurses := true, named := ["internal/bytealg.MaxLen"], apart := false, narrowed := true }
def SchemaIndicesUptoSaid : Prop := schemaIndicesUptoRow.holds Try.pinned (OpenSpec.upto schemaIndicesSpec)

/-- 'warehouselaw5.SchemaWidens', WHERE WHAT IT READS IS OF BULK AT MOST 1048576: true; the input reads as it did. -/
def schemaWidensUptoRow : OpenClaim := { program := "ytikifhfpiahnoaa", sum := "b777f56740adab4ced8cef2eb1c0876c4351ba74ee75d2ac836536b36d4c959c", func := "warehouse/warehouselaw5.SchemaWidens", spec := "schemaWidens", inPlace := ["internal/bytealg.IndexByteString", "internal/bytealg.IndexString"], unfollowed := true, recurses := true, named := ["internal/bytealg.MaxLen"], apart := false, narrowed := true }
def SchemaWidensUptoSaid : Prop := schemaWidensUptoRow.holds Try.pinned (OpenSpec.upto schemaWidensSpec)

end Rows
end Go.Proofs.Ytikifhfpiahnoaa
