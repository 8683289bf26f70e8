/-
  No cell of these rows narrows 'for every input' (looked for: loops, veiled, ifaces, maps, wideKeys, modest, calm, conditions, laid).
  DERIVED. THE GIVEN ROWS OF THIS SEAT. 5 by the template 'for every input the law returns true; each argument reads behind the call as it read before'; 0 by the template 'total and deterministic' (their statements: YtgmobjimfalhoaaTotals.lean).
  GIVEN WITH THE SEED: the statements are not yours to turn. If you find one false, say at which input.
  Laid BY PROGRAM, IN A SANDBOX (cutbox-rows.mjs): the forced cells as the released guide's own fill.sh prints them over the translation 5e30d6171ca0fb5e… (all of the seat's roots in one cut). By AI agents, Wed Nov 11 2026. No macro, syntax, notation, axiom, sorry.
-/
import Derived.Test.YtgmobjimfalhoaaChecked
import GoSem.Claim
import GoSem.ClaimJoined
import GoSem.ClaimMapViews
import Derived.JoinedTies
import Derived.KernelRfl
namespace Go.Proofs.Ytgmobjimfalhoaa
/- THE CELL 'sum', in the pinned program and in every row, IS THE sha256 OF THE DUMP (.gsa) THAT YtgmobjimfalhoaaProg.lean LOADS. Nothing in Lean hashes anything: it is a label: what it is worth is what the hold of that sum in a sandbox is worth. -/
noncomputable def Try.pinned : Pinned := { name := "ytgmobjimfalhoaa", sum := "5e30d6171ca0fb5e13efb819e6a8c2c16e2dc39821f250877bd06fd2b9c2104e", checked := Try.checked }
namespace Rows
def none {H : Type} : Left H := { results := [], args := [] }

/-- 'warehouselaw18.WindowRaw': WHATEVER THE INPUT: true; the input reads as it did. -/
def windowRawSpec : ChangeSpec := { name := "windowRaw", fn := fun _ => fun
  | [d1, d2, d3, d4, d5] => { results := [.lit (.bool true)], args := [d1, d2, d3, d4, d5] }
  | _ => none }
def windowRawRow : OpenClaim := { program := "ytgmobjimfalhoaa", sum := "5e30d6171ca0fb5e13efb819e6a8c2c16e2dc39821f250877bd06fd2b9c2104e", func := "warehouse/warehouselaw18.WindowRaw", spec := "windowRaw", unfollowed := true, recurses := true, apart := false }
def WindowRawSaid : Prop := windowRawRow.holds Try.pinned (OpenSpec.ofChange windowRawSpec)

/-- ITS FALSE NEIGHBOUR: 'it returns false'. Refute it at one input. -/
def windowRawWrong : ChangeSpec := { name := "windowRaw", fn := fun _ => fun
  | [d1, d2, d3, d4, d5] => { results := [.lit (.bool false)], args := [d1, d2, d3, d4, d5] }
  | _ => none }
def WindowRawWrongFalsely : Prop := windowRawRow.holds Try.pinned (OpenSpec.ofChange windowRawWrong)

/-- 'warehouselaw18.WindowKeeps': WHATEVER THE INPUT: true; the input reads as it did. -/
def windowKeepsSpec : ChangeSpec := { name := "windowKeeps", fn := fun _ => fun
  | [d1, d2, d3] => { results := [.lit (.bool true)], args := [d1, d2, d3] }
  | _ => none }
def windowKeepsRow : OpenClaim := { program := "ytgmobjimfalhoaa", sum := "5e30d6171ca0fb5e13efb819e6a8c2c16e2dc39821f250877bd06fd2b9c2104e", func := "warehouse/warehouselaw18.WindowKeeps", spec := "windowKeeps", unfollowed := true, recurses := true, apart := false }
def WindowKeepsSaid : Prop := windowKeepsRow.holds Try.pinned (OpenSpec.ofChange windowKeepsSpec)

/-- ITS FALSE NEIGHBOUR: 'it returns false'. Refute it at one input. -/
def windowKeepsWrong : ChangeSpec := { name := "windowKeeps", fn := fun _ => fun
  | [d1, d2, d3] => { results := [.lit (.bool false)], args := [d1, d2, d3] }
  | _ => none }
def WindowKeepsWrongFalsely : Prop := windowKeepsRow.holds Try.pinned (OpenSpec.ofChange windowKeepsWrong)

/-- 'warehouselaw18.WindowParts': WHATEVER THE INPUT: true; the input reads as it did. -/
def windowPartsSpec : ChangeSpec := { name := "windowParts", fn := fun _ => fun
  | [d1, d2, d3] => { results := [.lit (.bool true)], args := [d1, d2, d3] }
  | _ => none }
def windowPartsRow : OpenClaim := { program := "ytgmobjimfalhoaa", sum := "5e30d6171ca0fb5e13efb819e6a8c2c16e2dc39821f250877bd06fd2b9c2104e", func := "warehouse/warehouselaw18.WindowParts", spec := "windowParts", unfollowed := true, recurses := true, apart := false }
def WindowPartsSaid : Prop := windowPartsRow.holds Try.pinned (OpenSpec.ofChange windowPartsSpec)

/-- ITS FALSE NEIGHBOUR: 'it returns false'. Refute it at one input. -/
def windowPartsWrong : ChangeSpec := { name := "windowParts", fn := fun _ => fun
  | [d1, d2, d3] => { results := [.lit (.bool false)], args := [d1, d2, d3] }
  | _ => none }
def WindowPartsWrongFalsely : Prop := windowPartsRow.holds Try.pinned (OpenSpec.ofChange windowPartsWrong)

/-- 'warehouselaw18.WindowNumbers': WHATEVER THE INPUT: true; the input reads as it did. -/
def windowNumbersSpec : ChangeSpec := { name := "windowNumbers", fn := fun _ => fun
  | [d1, d2] => { results := [.lit (.bool true)], args := [d1, d2] }
  | _ => none }
def windowNumbersRow : OpenClaim := { program := "ytgmobjimfalhoaa", sum := "5e30d6171ca0fb5e13efb819e6a8c2c16e2dc39821f250877bd06fd2b9c2104e", func := "warehouse/warehouselaw18.WindowNumbers", spec := "windowNumbers", unfollowed := true, recurses := true, apart := false }
def WindowNumbersSaid : Prop := windowNumbersRow.holds Try.pinned (OpenSpec.ofChange windowNumbersSpec)

/-- ITS FALSE NEIGHBOUR: 'it returns false'. Refute it at one input. -/
def windowNumbersWrong : ChangeSpec := { name := "windowNumbers", fn := fun _ => fun
  | [d1, d2] => { results := [.lit (.bool false)], args := [d1, d2] }
  | _ => none }
def WindowNumbersWrongFalsely : Prop := windowNumbersRow.holds Try.pinned (OpenSpec.ofChange windowNumbersWrong)

/-- 'warehouselaw18.WindowMirrors': WHATEVER THE INPUT: true; the input reads as it did. -/
def windowMirrorsSpec : ChangeSpec := { name := "windowMirrors", fn := fun _ => fun
  | [d1, d2] => { results := [.lit (.bool true)], args := [d1, d2] }
  | _ => none }
def windowMirrorsRow : OpenClaim := { program := "ytgmobjimfalhoaa", sum := "5e30d6171ca0fb5e13efb819e6a8c2c16e2dc39821f250877bd06fd2b9c2104e", func := "warehouse/warehouselaw18.WindowMirrors", spec := "windowMirrors", unfollowed := true, recurses := true, apart := false }
def WindowMirrorsSaid : Prop := windowMirrorsRow.holds Try.pinned (OpenSpec.ofChange windowMirrorsSpec)

/-- ITS FALSE NEIGHBOUR: 'it returns false'. Refute it at one input. -/
def windowMirrorsWrong : ChangeSpec := { name := "windowMirrors", fn := fun _ => fun
  | [d1, d2] => { results := [.lit (.bool false)], args := [d1, d2] }
  | _ => none }
def WindowMirrorsWrongFalsely : Prop := windowMirrorsRow.holds Try.pinned (OpenSpec.ofChange windowMirrorsWrong)

/- THE SECOND FORM. 'bulk': how many values and letters a reading holds, each counted each time it is reached (what is shared counts as often as it is met; a slice's spare places count too). A statement '..UptoSaid' is the law's where the arguments, and the package variables that the reading takes, are together of bulk at most 1048576: NARROWER than '..Said'. Prove '..Said' where nothing that the law and all that it calls make is longer than what came in: it says more and counts as full. Else prove '..UptoSaid'. A law counts once. -/
mutual
def uptoBulk {H : Type} : DataW H → Nat
  | .lit (.string bytes) => bytes.length + 1
  | .lit _ => 1
  | .nil => 1
  | .ptr d => uptoBulk d + 1
  | .slice elems spare => uptoBulkAll elems + uptoBulkAll spare + 1
  | .agg parts => uptoBulkAll parts + 1
  | .iface _ d => uptoBulk d + 1
  | .map entries => uptoBulkEntries entries + 1
  | .held _ => 1
def uptoBulkAll {H : Type} : List (DataW H) → Nat
  | [] => 0
  | d :: r => uptoBulk d + uptoBulkAll r
def uptoBulkEntries {H : Type} : List (Lit × DataW H) → Nat
  | [] => 0
  | x :: r => uptoBulkEntry x + uptoBulkEntries r
def uptoBulkEntry {H : Type} : Lit × DataW H → Nat
  | (.string bytes, d) => bytes.length + uptoBulk d + 1
  | (_, d) => uptoBulk d + 1
 end
def uptoSmall : (H : Type) → List (DataW H) → Bool := fun _ ds => decide (uptoBulkAll ds ≤ 1048576)
def OpenSpec.upto (s : _root_.Go.ChangeSpec) : _root_.Go.OpenSpec := { _root_.Go.OpenSpec.ofChange s with cond := some uptoSmall }

/-- 'warehouselaw18.WindowRaw', WHERE WHAT IT READS IS OF BULK AT MOST 1048576: true; the input reads as it did. -/
def windowRawUptoRow : OpenClaim := { program := "ytgmobjimfalhoaa", sum := "5e30d6171ca0fb5e13efb819e6a8c2c16e2dc39821f250877bd06fd2b9c2104e", func := "warehouse/warehouselaw18.WindowRaw", spec := "windowRaw", unfollowed := true, recurses := true, apart := false, narrowed := true }
def WindowRawUptoSaid : Prop := windowRawUptoRow.holds Try.pinned (OpenSpec.upto windowRawSpec)

/-- 'warehouselaw18.WindowKeeps', WHERE WHAT IT READS IS OF BULK AT MOST 1048576: true; the input reads as it did. -/
def windowKeepsUptoRow : OpenClaim := { program := "ytgmobjimfalhoaa", sum := "5e30d6171ca0fb5e13efb819e6a8c2c16e2dc39821f250877bd06fd2b9c2104e", func := "warehouse/warehouselaw18.WindowKeeps", spec := "windowKeeps", unfollowed := true, recurses := true, apart := false, narrowed := true }
def WindowKeepsUptoSaid : Prop := windowKeepsUptoRow.holds Try.pinned (OpenSpec.upto windowKeepsSpec)

/-- 'warehouselaw18.WindowParts', WHERE WHAT IT READS IS OF BULK AT MOST 1048576: true; the input reads as it did. -/
def windowPartsUptoRow : OpenClaim := { program := "ytgmobjimfalhoaa", sum := "5e30d6171ca0fb5e13efb819e6a8c2c16e2dc39821f250877bd06fd2b9c2104e", func := "warehouse/warehouselaw18.WindowParts", spec := "windowParts", unfollowed := true, recurses := true, apart := false, narrowed := true }
def WindowPartsUptoSaid : Prop := windowPartsUptoRow.holds Try.pinned (OpenSpec.upto windowPartsSpec)

/-- 'warehouselaw18.WindowNumbers', WHERE WHAT IT READS IS OF BULK AT MOST 1048576: true; the input reads as it did. -/
def windowNumbersUptoRow : OpenClaim := { program := "ytgmobjimfalhoaa", sum := "5e30d6171ca0fb5e13efb819e6a8c2c16e2dc39821f250877bd06fd2b9c2104e", func := "warehouse/warehouselaw18.WindowNumbers", spec := "windowNumbers", unfollowed := true, recurses := true, apart := false, narrowed := true }
def WindowNumbersUptoSaid : Prop := windowNumbersUptoRow.holds Try.pinned (OpenSpec.upto windowNumbersSpec)

/-- 'warehouselaw18.WindowMirrors', WHERE WHAT IT READS IS OF BULK AT MOST 1048576: true; the input reads as it did. -/
def windowMirrorsUptoRow : OpenClaim := { program := "ytgmobjimfalhoaa", sum := "5e30d6171ca0fb5e13efb819e6a8c2c16e2dc39821f250877bd06fd2b9c2104e", func := "warehouse/warehouselaw18.WindowMirrors", spec := "windowMirrors", unfollowed := true, recurses := true, apart := false, narrowed := true }
def WindowMirrorsUptoSaid : Prop := windowMirrorsUptoRow.holds Try.pinned (OpenSpec.upto windowMirrorsSpec)

end Rows
end Go.Proofs.Ytgmobjimfalhoaa
