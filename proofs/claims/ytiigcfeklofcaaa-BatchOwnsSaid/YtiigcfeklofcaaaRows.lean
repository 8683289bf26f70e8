/-
  No cell of these rows narrows 'for every input' (looked for: loops, veiled, ifaces, maps, wideKeys, modest, calm, conditions, laid).
  DERIVED. THE GIVEN ROWS OF THIS SEAT. 7 by the template 'for every input the law returns true; each argument reads behind the call as it read before'; 0 by the template 'total and deterministic' (their statements: YtiigcfeklofcaaaTotals.lean).
  GIVEN WITH THE SEED: the statements are not yours to turn. If you find one false, say at which input.
  Laid BY PROGRAM, IN A SANDBOX (cutbox-rows.mjs): the forced cells as the released guide's own fill.sh prints them over the translation 83c1711480b3c0e6… (all of the seat's roots in one cut). By AI agents, Wed Nov 11 2026. No macro, syntax, notation, axiom, sorry.
-/
import Derived.Test.YtiigcfeklofcaaaChecked
import GoSem.Claim
import GoSem.ClaimJoined
import GoSem.ClaimMapViews
import Derived.JoinedTies
import Derived.KernelRfl
namespace Go.Proofs.Ytiigcfeklofcaaa
/- THE CELL 'sum', in the pinned program and in every row, IS THE sha256 OF THE DUMP (.gsa) THAT YtiigcfeklofcaaaProg.lean LOADS. Nothing in Lean hashes anything: it is a label: what it is worth is what the hold of that sum in a sandbox is worth. -/
noncomputable def Try.pinned : Pinned := { name := "ytiigcfeklofcaaa", sum := "83c1711480b3c0e6bf1d0149315cdf4d66d079482cff3b345ef9d4c0cdbdbc55", checked := Try.checked }
namespace Rows
def none {H : Type} : Left H := { results := [], args := [] }

/-- 'warehouselaw24.BatchChecksum': WHATEVER THE INPUT: true; the input reads as it did. -/
def batchChecksumSpec : ChangeSpec := { name := "batchChecksum", fn := fun _ => fun
  | [d] => { results := [.lit (.bool true)], args := [d] }
  | _ => none }
def batchChecksumRow : OpenClaim := { program := "ytiigcfeklofcaaa", sum := "83c1711480b3c0e6bf1d0149315cdf4d66d079482cff3b345ef9d4c0cdbdbc55", func := "warehouse/warehouselaw24.BatchChecksum", spec := "batchChecksum", inPlace := ["internal/bytealg.IndexByteString", "internal/bytealg.IndexString"], named := ["internal/bytealg.MaxLen"], apart := false }
def BatchChecksumSaid : Prop := batchChecksumRow.holds Try.pinned (OpenSpec.ofChange batchChecksumSpec)

/-- ITS FALSE NEIGHBOUR: 'it returns false'. Refute it at one input. -/
def batchChecksumWrong : ChangeSpec := { name := "batchChecksum", fn := fun _ => fun
  | [d] => { results := [.lit (.bool false)], args := [d] }
  | _ => none }
def BatchChecksumWrongFalsely : Prop := batchChecksumRow.holds Try.pinned (OpenSpec.ofChange batchChecksumWrong)

/-- 'warehouselaw24.BatchEncode': WHATEVER THE INPUT: true; the input reads as it did. -/
def batchEncodeSpec : ChangeSpec := { name := "batchEncode", fn := fun _ => fun
  | [d1, d2, d3] => { results := [.lit (.bool true)], args := [d1, d2, d3] }
  | _ => none }
def batchEncodeRow : OpenClaim := { program := "ytiigcfeklofcaaa", sum := "83c1711480b3c0e6bf1d0149315cdf4d66d079482cff3b345ef9d4c0cdbdbc55", func := "warehouse/warehouselaw24.BatchEncode", spec := "batchEncode", inPlace := ["internal/bytealg.IndexByteString", "internal/bytealg.IndexString"], named := ["internal/bytealg.MaxLen"], apart := false }
def BatchEncodeSaid : Prop := batchEncodeRow.holds Try.pinned (OpenSpec.ofChange batchEncodeSpec)

/-- ITS FALSE NEIGHBOUR: 'it returns false'. Refute it at one input. -/
def batchEncodeWrong : ChangeSpec := { name := "batchEncode", fn := fun _ => fun
  | [d1, d2, d3] => { results := [.lit (.bool false)], args := [d1, d2, d3] }
  | _ => none }
def BatchEncodeWrongFalsely : Prop := batchEncodeRow.holds Try.pinned (OpenSpec.ofChange batchEncodeWrong)

/-- 'warehouselaw24.BatchDecode': WHATEVER THE INPUT: true; the input reads as it did. -/
def batchDecodeSpec : ChangeSpec := { name := "batchDecode", fn := fun _ => fun
  | [d] => { results := [.lit (.bool true)], args := [d] }
  | _ => none }
def batchDecodeRow : OpenClaim := { program := "ytiigcfeklofcaaa", sum := "83c1711480b3c0e6bf1d0149315cdf4d66d079482cff3b345ef9d4c0cdbdbc55", func := "warehouse/warehouselaw24.BatchDecode", spec := "batchDecode", inPlace := ["internal/bytealg.IndexByteString", "internal/bytealg.IndexString"], named := ["internal/bytealg.MaxLen"], apart := false }
def BatchDecodeSaid : Prop := batchDecodeRow.holds Try.pinned (OpenSpec.ofChange batchDecodeSpec)

/-- ITS FALSE NEIGHBOUR: 'it returns false'. Refute it at one input. -/
def batchDecodeWrong : ChangeSpec := { name := "batchDecode", fn := fun _ => fun
  | [d] => { results := [.lit (.bool false)], args := [d] }
  | _ => none }
def BatchDecodeWrongFalsely : Prop := batchDecodeRow.holds Try.pinned (OpenSpec.ofChange batchDecodeWrong)

/-- 'warehouselaw24.BatchBack': WHATEVER THE INPUT: true; the input reads as it did. -/
def batchBackSpec : ChangeSpec := { name := "batchBack", fn := fun _ => fun
  | [d1, d2, d3, d4] => { results := [.lit (.bool true)], args := [d1, d2, d3, d4] }
  | _ => none }
def batchBackRow : OpenClaim := { program := "ytiigcfeklofcaaa", sum := "83c1711480b3c0e6bf1d0149315cdf4d66d079482cff3b345ef9d4c0cdbdbc55", func := "warehouse/warehouselaw24.BatchBack", spec := "batchBack", inPlace := ["internal/bytealg.IndexByteString", "internal/bytealg.IndexString"], named := ["internal/bytealg.MaxLen"], apart := false }
def BatchBackSaid : Prop := batchBackRow.holds Try.pinned (OpenSpec.ofChange batchBackSpec)

/-- ITS FALSE NEIGHBOUR: 'it returns false'. Refute it at one input. -/
def batchBackWrong : ChangeSpec := { name := "batchBack", fn := fun _ => fun
  | [d1, d2, d3, d4] => { results := [.lit (.bool false)], args := [d1, d2, d3, d4] }
  | _ => none }
def BatchBackWrongFalsely : Prop := batchBackRow.holds Try.pinned (OpenSpec.ofChange batchBackWrong)

/-- 'warehouselaw24.BatchTurned': WHATEVER THE INPUT: true; the input reads as it did. -/
def batchTurnedSpec : ChangeSpec := { name := "batchTurned", fn := fun _ => fun
  | [d1, d2, d3, d4, d5, d6] => { results := [.lit (.bool true)], args := [d1, d2, d3, d4, d5, d6] }
  | _ => none }
def batchTurnedRow : OpenClaim := { program := "ytiigcfeklofcaaa", sum := "83c1711480b3c0e6bf1d0149315cdf4d66d079482cff3b345ef9d4c0cdbdbc55", func := "warehouse/warehouselaw24.BatchTurned", spec := "batchTurned", inPlace := ["internal/bytealg.IndexByteString", "internal/bytealg.IndexString"], named := ["internal/bytealg.MaxLen"], apart := false }
def BatchTurnedSaid : Prop := batchTurnedRow.holds Try.pinned (OpenSpec.ofChange batchTurnedSpec)

/-- ITS FALSE NEIGHBOUR: 'it returns false'. Refute it at one input. -/
def batchTurnedWrong : ChangeSpec := { name := "batchTurned", fn := fun _ => fun
  | [d1, d2, d3, d4, d5, d6] => { results := [.lit (.bool false)], args := [d1, d2, d3, d4, d5, d6] }
  | _ => none }
def BatchTurnedWrongFalsely : Prop := batchTurnedRow.holds Try.pinned (OpenSpec.ofChange batchTurnedWrong)

/-- 'warehouselaw24.BatchLimits': WHATEVER THE INPUT: true; the input reads as it did. -/
def batchLimitsSpec : ChangeSpec := { name := "batchLimits", fn := fun _ => fun
  | [d1, d2, d3] => { results := [.lit (.bool true)], args := [d1, d2, d3] }
  | _ => none }
def batchLimitsRow : OpenClaim := { program := "ytiigcfeklofcaaa", sum := "83c1711480b3c0e6bf1d0149315cdf4d66d079482cff3b345ef9d4c0cdbdbc55", func := "warehouse/warehouselaw24.BatchLimits", spec := "batchLimits", inPlace := ["internal/bytealg.IndexByteString", "internal/bytealg.IndexString"], named := ["internal/bytealg.MaxLen"], apart := false }
def BatchLimitsSaid : Prop := batchLimitsRow.holds Try.pinned (OpenSpec.ofChange batchLimitsSpec)

/-- ITS FALSE NEIGHBOUR: 'it returns false'. Refute it at one input. -/
def batchLimitsWrong : ChangeSpec := { name := "batchLimits", fn := fun _ => fun
  | [d1, d2, d3] => { results := [.lit (.bool false)], args := [d1, d2, d3] }
  | _ => none }
def BatchLimitsWrongFalsely : Prop := batchLimitsRow.holds Try.pinned (OpenSpec.ofChange batchLimitsWrong)

/-- 'warehouselaw24.BatchOwns': WHATEVER THE INPUT: true; the input reads as it did. -/
def batchOwnsSpec : ChangeSpec := { name := "batchOwns", fn := fun _ => fun
  | [d1, d2] => { results := [.lit (.bool true)], args := [d1, d2] }
  | _ => none }
def batchOwnsRow : OpenClaim := { program := "ytiigcfeklofcaaa", sum := "83c1711480b3c0e6bf1d0149315cdf4d66d079482cff3b345ef9d4c0cdbdbc55", func := "warehouse/warehouselaw24.BatchOwns", spec := "batchOwns", inPlace := ["internal/bytealg.IndexByteString", "internal/bytealg.IndexString"], named := ["internal/bytealg.MaxLen"], apart := false }
def BatchOwnsSaid : Prop := batchOwnsRow.holds Try.pinned (OpenSpec.ofChange batchOwnsSpec)

/-- ITS FALSE NEIGHBOUR: 'it returns false'. Refute it at one input. -/
def batchOwnsWrong : ChangeSpec := { name := "batchOwns", fn := fun _ => fun
  | [d1, d2] => { results := [.lit (.bool false)], args := [d1, d2] }
  | _ => none }
def BatchOwnsWrongFalsely : Prop := batchOwnsRow.holds Try.pinned (OpenSpec.ofChange batchOwnsWrong)

/- THE SECOND FORM. 'bulk': how many values and letters a reading holds, each counted each time it is reached (what is shared counts as often as it is met; a slice's spare places count too). A statement '..UptoSaid' is the law's where the arguments, and the package variables that the reading takes, are together of bulk at most 1048576: NARROWER than '..Said'. Prove '..Said' where nothing that the law and all that it calls make is longer than what came in: it says more and counts as full. Else prove '..UptoSaid'. A law counts once. -/
mutual
def uptoBulk {H : Type} : DataW H → Nat
  | .lit (.string bytes) => bytes.length + 1
  | .lit _ => 1
  | .nil => 1
  | .ptr d => uptoBulk d + 1
  | .slice elems spare => uptoBulkAll elems + uptoBulkAll spare + 1
  | .agg parts => uptoBulkAll parts + 1
  | .iface _ d => uptoBulk d + 1
  | .map entries => uptoBulkEntries entries + 1
  | .held _ => 1
def uptoBulkAll {H : Type} : List (DataW H) → Nat
  | [] => 0
  | d :: r => uptoBulk d + uptoBulkAll r
def uptoBulkEntries {H : Type} : List (Lit × DataW H) → Nat
  | [] => 0
  | x :: r => uptoBulkEntry x + uptoBulkEntries r
def uptoBulkEntry {H : Type} : Lit × DataW H → Nat
  | (.string bytes, d) => bytes.length + uptoBulk d + 1
  | (_, d) => uptoBulk d + 1
 end
def uptoSmall : (H : Type) → List (DataW H) → Bool := fun _ ds => decide (uptoBulkAll ds ≤ 1048576)
def OpenSpec.upto (s : _root_.Go.ChangeSpec) : _root_.Go.OpenSpec := { _root_.Go.OpenSpec.ofChange s with cond := some uptoSmall }

/-- 'warehouselaw24.BatchChecksum', WHERE WHAT IT READS IS OF BULK AT MOST 1048576: true; the input reads as it did. -/
def batchChecksumUptoRow : OpenClaim := { program := "ytiigcfeklofcaaa", sum := "83c1711480b3c0e6bf1d0149315cdf4d66d079482cff3b345ef9d4c0cdbdbc55", func := "warehouse/warehouselaw24.BatchChecksum", spec := "batchChecksum", inPlace := ["internal/bytealg.IndexByteString", "internal/bytealg.IndexString"], named := ["internal/bytealg.MaxLen"], apart := false, narrowed := true }
def BatchChecksumUptoSaid : Prop := batchChecksumUptoRow.holds Try.pinned (OpenSpec.upto batchChecksumSpec)

/-- 'warehouselaw24.BatchEncode', WHERE WHAT IT READS IS OF BULK AT MOST 1048576: true; the input reads as it did. -/
def batchEncodeUptoRow : OpenClaim := { program := "ytiigcfeklofcaaa", sum := "83c1711480b3c0e6bf1d0149315cdf4d66d079482cff3b345ef9d4c0cdbdbc55", func := "warehouse/warehouselaw24.BatchEncode", spec := "batchEncode", inPlace := ["internal/bytealg.IndexByteString", "internal/bytealg.IndexString"], named := ["internal/bytealg.MaxLen"], apart := false, narrowed := true }
def BatchEncodeUptoSaid : Prop := batchEncodeUptoRow.holds Try.pinned (OpenSpec.upto batchEncodeSpec)

/-- 'warehouselaw24.BatchDecode', WHERE WHAT IT READS IS OF BULK AT MOST 1048576: true; the input reads as it did. -/
def batchDecodeUptoRow : OpenClaim := { program := "ytiigcfeklofcaaa", sum := "83c1711480b3c0e6bf1d0149315cdf4d66d079482cff3b345ef9d4c0cdbdbc55", func := "warehouse/warehouselaw24.BatchDecode", spec := "batchDecode", inPlace := ["internal/bytealg.IndexByteString", "internal/bytealg.IndexString"], named := ["internal/bytealg.MaxLen"], apart := false, narrowed := true }
def BatchDecodeUptoSaid : Prop := batchDecodeUptoRow.holds Try.pinned (OpenSpec.upto batchDecodeSpec)

/-- 'warehouselaw24.BatchBack', WHERE WHAT IT READS IS OF BULK AT MOST 1048576: true; the input reads as it did. -/
def batchBackUptoRow : OpenClaim := { program := "ytiigcfeklofcaaa", sum := "83c1711480b3c0e6bf1d0149315cdf4d66d079482cff3b345ef9d4c0cdbdbc55", func := "warehouse/warehouselaw24.BatchBack", spec := "batchBack", inPlace := ["internal/bytealg.IndexByteString", "internal/bytealg.IndexString"], named := ["internal/bytealg.MaxLen"], apart := false, narrowed := true }
def BatchBackUptoSaid : Prop := batchBackUptoRow.holds Try.pinned (OpenSpec.upto batchBackSpec)

/-- 'warehouselaw24.BatchTurned', WHERE WHAT IT READS IS OF BULK AT MOST 1048576: true; the input reads as it did. -/
def batchTurnedUptoRow : OpenClaim := { program := "ytiigcfeklofcaaa", sum := "83c1711480b3c0e6bf1d0149315cdf4d66d079482cff3b345ef9d4c0cdbdbc55", func := "warehouse/warehouselaw24.BatchTurned", spec := "batchTurned", inPlace := ["internal/bytealg.IndexByteString", "internal/bytealg.IndexString"], named := ["internal/bytealg.MaxLen"], apart := false, narrowed := true }
def BatchTurnedUptoSaid : Prop := batchTurnedUptoRow.holds Try.pinned (OpenSpec.upto batchTurnedSpec)

/-- 'warehouselaw24.BatchLimits', WHERE WHAT IT READS IS OF BULK AT MOST 1048576: true; the input reads as it did. -/
def batchLimitsUptoRow : OpenClaim := { program := "ytiigcfeklofcaaa", sum := "83c1711480b3c0e6bf1d0149315cdf4d66d079482cff3b345ef9d4c0cdbdbc55", func := "warehouse/warehouselaw24.BatchLimits", spec := "batchLimits", inPlace := ["internal/bytealg.IndexByteString", "internal/bytealg.IndexString"], named := ["internal/bytealg.MaxLen"], apart := false, narrowed := true }
def BatchLimitsUptoSaid : Prop := batchLimitsUptoRow.holds Try.pinned (OpenSpec.upto batchLimitsSpec)

/-- 'warehouselaw24.BatchOwns', WHERE WHAT IT READS IS OF BULK AT MOST 1048576: true; the input reads as it did. -/
def batchOwnsUptoRow : OpenClaim := { program := "ytiigcfeklofcaaa", sum := "83c1711480b3c0e6bf1d0149315cdf4d66d079482cff3b345ef9d4c0cdbdbc55", func := "warehouse/warehouselaw24.BatchOwns", spec := "batchOwns", inPlace := ["internal/bytealg.IndexByteString", "internal/bytealg.IndexString"], named := ["internal/bytealg.MaxLen"], apart := false, narrowed := true }
def BatchOwnsUptoSaid : Prop := batchOwnsUptoRow.holds Try.pinned (OpenSpec.upto batchOwnsSpec)

end Rows
end Go.Proofs.Ytiigcfeklofcaaa
