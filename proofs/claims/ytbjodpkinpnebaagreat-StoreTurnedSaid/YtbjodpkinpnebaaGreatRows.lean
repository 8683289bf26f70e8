/-
  No cell of these rows narrows 'for every input' (looked for: loops, veiled, ifaces, maps, wideKeys, modest, calm, conditions, laid).
  DERIVED. THE GIVEN ROWS OF THIS SEAT. 5 by the template 'for every input the law returns true; each argument reads behind the call as it read before'; 0 by the template 'total and deterministic' (their statements: YtbjodpkinpnebaaGreatTotals.lean).
  GIVEN WITH THE SEED: the statements are not yours to turn. If you find one false, say at which input.
  Laid BY PROGRAM, IN A SANDBOX (cutbox-rows.mjs): the forced cells as the released guide's own fill.sh prints them over the translation ffe47f0a01eb439c… (all of the seat's roots in one cut). By AI agents, Wed Nov 11 2026. No macro, syntax, notation, axiom, sorry.
-/
import Derived.Test.YtbjodpkinpnebaaGreatChecked
import GoSem.Claim
import GoSem.ClaimJoined
import GoSem.ClaimMapViews
import Derived.JoinedTies
import Derived.KernelRfl
namespace Go.Proofs.YtbjodpkinpnebaaGreat
/- THE CELL 'sum', in the pinned program and in every row, IS THE sha256 OF THE DUMP (.gsa) THAT YtbjodpkinpnebaaGreatProg.lean LOADS. Nothing in Lean hashes anything: it is a label: what it is worth is what the hold of that sum in a sandbox is worth. -/
noncomputable def Tryz.pinned : Pinned := { name := "ytbjodpkinpnebaagreat", sum := "ffe47f0a01eb439ce9395dd1ab66bb1b7de2804e4cb59e61dfc372786fbb3054", checked := Tryz.checked }
namespace Rows
def none {H : Type} : Left H := { results := [], args := [] }

/-- 'warehouselaw36.StoreOpens': WHATEVER THE INPUT: true; the input reads as it did. -/
def storeOpensSpec : ChangeSpec := { name := "storeOpens", fn := fun _ => fun
  | [d1, d2, d3, d4] => { results := [.lit (.bool true)], args := [d1, d2, d3, d4] }
  | _ => none }
def storeOpensRow : OpenClaim := { program := "ytbjodpkinpnebaagreat", sum := "ffe47f0a01eb439ce9395dd1ab66bb1b7de2804e4cb59e61dfc372786fbb3054", func := "warehouse/warehouselaw36.StoreOpens", spec := "storeOpens", inPlace := ["internal/bytealg.IndexByteString", "internal/bytealg.IndexString", "maps.clone"], unfollowed := true, recurses := true, named := ["internal/bytealg.MaxLen"], apart := false }
def StoreOpensSaid : Prop := storeOpensRow.holds Tryz.pinned (OpenSpec.ofChange storeOpensSpec)

/-- ITS FALSE NEIGHBOUR: 'it returns false'. Refute it at one input. -/
def storeOpensWrong : ChangeSpec := { name := "storeOpens", fn := fun _ => fun
  | [d1, d2, d3, d4] => { results := [.lit (.bool false)], args := [d1, d2, d3, d4] }
  | _ => none }
def StoreOpensWrongFalsely : Prop := storeOpensRow.holds Tryz.pinned (OpenSpec.ofChange storeOpensWrong)

/-- 'warehouselaw36.StorePlays': WHATEVER THE INPUT: true; the input reads as it did. -/
def storePlaysSpec : ChangeSpec := { name := "storePlays", fn := fun _ => fun
  | [d1, d2] => { results := [.lit (.bool true)], args := [d1, d2] }
  | _ => none }
def storePlaysRow : OpenClaim := { program := "ytbjodpkinpnebaagreat", sum := "ffe47f0a01eb439ce9395dd1ab66bb1b7de2804e4cb59e61dfc372786fbb3054", func := "warehouse/warehouselaw36.StorePlays", spec := "storePlays", inPlace := ["internal/bytealg.IndexByteString", "internal/bytealg.IndexString", "maps.clone"], unfollowed := true, recurses := true, named := ["internal/bytealg.MaxLen"], apart := false }
def StorePlaysSaid : Prop := storePlaysRow.holds Tryz.pinned (OpenSpec.ofChange storePlaysSpec)

/-- ITS FALSE NEIGHBOUR: 'it returns false'. Refute it at one input. -/
def storePlaysWrong : ChangeSpec := { name := "storePlays", fn := fun _ => fun
  | [d1, d2] => { results := [.lit (.bool false)], args := [d1, d2] }
  | _ => none }
def StorePlaysWrongFalsely : Prop := storePlaysRow.holds Tryz.pinned (OpenSpec.ofChange storePlaysWrong)

/-- 'warehouselaw36.StoreRestarts': WHATEVER THE INPUT: true; the input reads as it did. -/
def storeRestartsSpec : ChangeSpec := { name := "storeRestarts", fn := fun _ => fun
  | [d1, d2] => { results := [.lit (.bool true)], args := [d1, d2] }
  | _ => none }
def storeRestartsRow : OpenClaim := { program := "ytbjodpkinpnebaagreat", sum := "ffe47f0a01eb439ce9395dd1ab66bb1b7de2804e4cb59e61dfc372786fbb3054", func := "warehouse/warehouselaw36.StoreRestarts", spec := "storeRestarts", inPlace := ["internal/bytealg.IndexByteString", "internal/bytealg.IndexString", "maps.clone"], unfollowed := true, recurses := true, named := ["internal/bytealg.MaxLen"], apart := false }
def StoreRestartsSaid : Prop := storeRestartsRow.holds Tryz.pinned (OpenSpec.ofChange storeRestartsSpec)

/-- ITS FALSE NEIGHBOUR: 'it returns false'. Refute it at one input. -/
def storeRestartsWrong : ChangeSpec := { name := "storeRestarts", fn := fun _ => fun
  | [d1, d2] => { results := [.lit (.bool false)], args := [d1, d2] }
  | _ => none }
def StoreRestartsWrongFalsely : Prop := storeRestartsRow.holds Tryz.pinned (OpenSpec.ofChange storeRestartsWrong)

/-- 'warehouselaw36.StorePacks': WHATEVER THE INPUT: true; the input reads as it did. -/
def storePacksSpec : ChangeSpec := { name := "storePacks", fn := fun _ => fun
  | [d1, d2, d3, d4, d5] => { results := [.lit (.bool true)], args := [d1, d2, d3, d4, d5] }
  | _ => none }
def storePacksRow : OpenClaim := { program := "ytbjodpkinpnebaagreat", sum := "ffe47f0a01eb439ce9395dd1ab66bb1b7de2804e4cb59e61dfc372786fbb3054", func := "warehouse/warehouselaw36.StorePacks", spec := "storePacks", inPlace := ["internal/bytealg.IndexByteString", "internal/bytealg.IndexString", "maps.clone"], unfollowed := true, recurses := true, named := ["internal/bytealg.MaxLen"], apart := false }
def StorePacksSaid : Prop := storePacksRow.holds Tryz.pinned (OpenSpec.ofChange storePacksSpec)

/-- ITS FALSE NEIGHBOUR: 'it returns false'. Refute it at one input. -/
def storePacksWrong : ChangeSpec := { name := "storePacks", fn := fun _ => fun
  | [d1, d2, d3, d4, d5] => { results := [.lit (.bool false)], args := [d1, d2, d3, d4, d5] }
  | _ => none }
def StorePacksWrongFalsely : Prop := storePacksRow.holds Tryz.pinned (OpenSpec.ofChange storePacksWrong)

/-- 'warehouselaw36.StoreTurned': WHATEVER THE INPUT: true; the input reads as it did. -/
def storeTurnedSpec : ChangeSpec := { name := "storeTurned", fn := fun _ => fun
  | [d1, d2, d3, d4, d5] => { results := [.lit (.bool true)], args := [d1, d2, d3, d4, d5] }
  | _ => none }
def storeTurnedRow : OpenClaim := { program := "ytbjodpkinpnebaagreat", sum := "ffe47f0a01eb439ce9395dd1ab66bb1b7de2804e4cb59e61dfc372786fbb3054", func := "warehouse/warehouselaw36.StoreTurned", spec := "storeTurned", inPlace := ["internal/bytealg.IndexByteString", "internal/bytealg.IndexString", "maps.clone"], unfollowed := true, recurses := true, named := ["internal/bytealg.MaxLen"], apart := false }
def StoreTurnedSaid : Prop := storeTurnedRow.holds Tryz.pinned (OpenSpec.ofChange storeTurnedSpec)

/-- ITS FALSE NEIGHBOUR: 'it returns false'. Refute it at one input. -/
def storeTurnedWrong : ChangeSpec := { name := "storeTurned", fn := fun _ => fun
  | [d1, d2, d3, d4, d5] => { results := [.lit (.bool false)], args := [d1, d2, d3, d4, d5] }
  | _ => none }
def StoreTurnedWrongFalsely : Prop := storeTurnedRow.holds Tryz.pinned (OpenSpec.ofChange storeTurnedWrong)

/- THE SECOND FORM. 'bulk': how many values and letters a reading holds, each counted each time it is reached (what is shared counts as often as it is met; a slice's spare places count too). A statement '..UptoSaid' is the law's where the arguments, and the package variables that the reading takes, are together of bulk at most 1048576: NARROWER than '..Said'. Prove '..Said' where nothing that the law and all that it calls make is longer than what came in: it says more and counts as full. Else prove '..UptoSaid'. A law counts once. -/
mutual
def uptoBulk {H : Type} : DataW H → Nat
  | .lit (.string bytes) => bytes.length + 1
  | .lit _ => 1
  | .nil => 1
  | .ptr d => uptoBulk d + 1
  | .slice elems spare => uptoBulkAll elems + uptoBulkAll spare + 1
  | .agg parts => uptoBulkAll parts + 1
  | .iface _ d => uptoBulk d + 1
  | .map entries => uptoBulkEntries entries + 1
  | .held _ => 1
def uptoBulkAll {H : Type} : List (DataW H) → Nat
  | [] => 0
  | d :: r => uptoBulk d + uptoBulkAll r
def uptoBulkEntries {H : Type} : List (Lit × DataW H) → Nat
  | [] => 0
  | x :: r => uptoBulkEntry x + uptoBulkEntries r
def uptoBulkEntry {H : Type} : Lit × DataW H → Nat
  | (.string bytes, d) => bytes.length + uptoBulk d + 1
  | (_, d) => uptoBulk d + 1
 end
def uptoSmall : (H : Type) → List (DataW H) → Bool := fun _ ds => decide (uptoBulkAll ds ≤ 1048576)
def OpenSpec.upto (s : _root_.Go.ChangeSpec) : _root_.Go.OpenSpec := { _root_.Go.OpenSpec.ofChange s with cond := some uptoSmall }

/-- 'warehouselaw36.StoreOpens', WHERE WHAT IT READS IS OF BULK AT MOST 1048576: true; the input reads as it did. -/
def storeOpensUptoRow : OpenClaim := { program := "ytbjodpkinpnebaagreat", sum := "ffe47f0a01eb439ce9395dd1ab66bb1b7de2804e4cb59e61dfc372786fbb3054", func := "warehouse/warehouselaw36.StoreOpens", spec := "storeOpens", inPlace := ["internal/bytealg.IndexByteString", "internal/bytealg.IndexString", "maps.clone"], unfollowed := true, recurses := true, named := ["internal/bytealg.MaxLen"], apart := false, narrowed := true }
def StoreOpensUptoSaid : Prop := storeOpensUptoRow.holds Tryz.pinned (OpenSpec.upto storeOpensSpec)

/-- 'warehouselaw36.StorePlays', WHERE WHAT IT READS IS OF BULK AT MOST 1048576: true; the input reads as it did. -/
def storePlaysUptoRow : OpenClaim := { program := "ytbjodpkinpnebaagreat", sum := "ffe47f0a01eb439ce9395dd1ab66bb1b7de2804e4cb59e61dfc372786fbb3054", func := "warehouse/warehouselaw36.StorePlays", spec := "storePlays", inPlace := ["internal/bytealg.IndexByteString", "internal/bytealg.IndexString", "maps.clone"], unfollowed := true, recurses := true, named := ["internal/bytealg.MaxLen"], apart := false, narrowed := true }
def StorePlaysUptoSaid : Prop := storePlaysUptoRow.holds Tryz.pinned (OpenSpec.upto storePlaysSpec)

/-- 'warehouselaw36.StoreRestarts', WHERE WHAT IT READS IS OF BULK AT MOST 1048576: true; the input reads as it did. -/
def storeRestartsUptoRow : OpenClaim := { program := "ytbjodpkinpnebaagreat", sum := "ffe47f0a01eb439ce9395dd1ab66bb1b7de2804e4cb59e61dfc372786fbb3054", func := "warehouse/warehouselaw36.StoreRestarts", spec := "storeRestarts", inPlace := ["internal/bytealg.IndexByteString", "internal/bytealg.IndexString", "maps.clone"], unfollowed := true, recurses := true, named := ["internal/bytealg.MaxLen"], apart := false, narrowed := true }
def StoreRestartsUptoSaid : Prop := storeRestartsUptoRow.holds Tryz.pinned (OpenSpec.upto storeRestartsSpec)

/-- 'warehouselaw36.StorePacks', WHERE WHAT IT READS IS OF BULK AT MOST 1048576: true; the input reads as it did. -/
def storePacksUptoRow : OpenClaim := { program := "ytbjodpkinpnebaagreat", sum := "ffe47f0a01eb439ce9395dd1ab66bb1b7de2804e4cb59e61dfc372786fbb3054", func := "warehouse/warehouselaw36.StorePacks", spec := "storePacks", inPlace := ["internal/bytealg.IndexByteString", "internal/bytealg.IndexString", "maps.clone"], unfollowed := true, recurses := true, named := ["internal/bytealg.MaxLen"], apart := false, narrowed := true }
def StorePacksUptoSaid : Prop := storePacksUptoRow.holds Tryz.pinned (OpenSpec.upto storePacksSpec)

/-- 'warehouselaw36.StoreTurned', WHERE WHAT IT READS IS OF BULK AT MOST 1048576: true; the input reads as it did. -/
def storeTurnedUptoRow : OpenClaim := { program := "ytbjodpkinpnebaagreat", sum := "ffe47f0a01eb439ce9395dd1ab66bb1b7de2804e4cb59e61dfc372786fbb3054", func := "warehouse/warehouselaw36.StoreTurned", spec := "storeTurned", inPlace := ["internal/bytealg.IndexByteString", "internal/bytealg.IndexString", "maps.clone"], unfollowed := true, recurses := true, named := ["internal/bytealg.MaxLen"], apart := false, narrowed := true }
def StoreTurnedUptoSaid : Prop := storeTurnedUptoRow.holds Tryz.pinned (OpenSpec.upto storeTurnedSpec)

end Rows
end Go.Proofs.YtbjodpkinpnebaaGreat
