/-
  The law StoreApart holds for every input.
  No condition.
-/
import Derived.Test.YtbjodpkinpnebaaRows
import Derived.Test.YtbjodpkinpnebaaZ8

import Derived.KernelRfl
import Derived.ProofKit
import Derived.WalkKit
namespace Go.Proofs.Ytbjodpkinpnebaa.storeApart
open Go.AW Go.ChangeShapes Go.WideShapes Go.ChangeAt Go.RowKit
set_option linter.unusedVariables false
set_option maxRecDepth 100000

instance theDraws : Draws := ⟨False⟩
theorem nodraw : ¬ Draws.up := fun h => h
theorem own : ownKnob Try.prog.godebug = none := by kernel_rfl
theorem laidOut : laidOutB Try.prog = true := by kernel_rfl

noncomputable def i_z0a : F_z0a Try.prog := ⟨66, ⟨Try.f66, Try.f66.body.getD .skip, Try.func66, by kernel_rfl, by kernel_rfl, by kernel_rfl, by kernel_rfl, by kernel_rfl⟩⟩
noncomputable def i_z0b : F_z0b Try.prog := ⟨60, ⟨Try.f60, Try.f60.body.getD .skip, Try.func60, by kernel_rfl, by kernel_rfl, by kernel_rfl, by kernel_rfl, by kernel_rfl⟩⟩
noncomputable def i_z00 : F_z00 Try.prog := ⟨75, ⟨Try.f75, Try.f75.body.getD .skip, Try.func75, by kernel_rfl, by kernel_rfl, by kernel_rfl, by kernel_rfl, by kernel_rfl⟩⟩
noncomputable def i_z0c : F_z0c Try.prog := ⟨61, i_z0b, i_z00, ⟨Try.f61, Try.f61.body.getD .skip, Try.func61, by kernel_rfl, by kernel_rfl, by kernel_rfl, by kernel_rfl, by kernel_rfl⟩⟩

noncomputable def i_z06 : F_z06 Try.prog := ⟨36, ⟨Try.f36, Try.f36.body.getD .skip, Try.func36, by kernel_rfl, by kernel_rfl, by kernel_rfl, by kernel_rfl, by kernel_rfl⟩⟩
noncomputable def i_z09 : F_z09 Try.prog := ⟨20, ⟨21⟩, i_z06, ⟨Try.f20, Try.f20.body.getD .skip, Try.func20, by kernel_rfl, by kernel_rfl, by kernel_rfl, by kernel_rfl, by kernel_rfl⟩⟩
noncomputable def i_z14 : F_z14 Try.prog := ⟨67, ⟨Try.f67, Try.f67.body.getD .skip, Try.func67, by kernel_rfl, by kernel_rfl, by kernel_rfl, by kernel_rfl, by kernel_rfl⟩⟩
noncomputable def i_z13 : F_z13 Try.prog := ⟨44, i_z14, ⟨Try.f44, Try.f44.body.getD .skip, Try.func44, by kernel_rfl, by kernel_rfl, by kernel_rfl, by kernel_rfl, by kernel_rfl⟩⟩
noncomputable def i_z15 : F_z15 Try.prog := ⟨68, i_z13, i_z14, ⟨Try.f68, Try.f68.body.getD .skip, Try.func68, by kernel_rfl, by kernel_rfl, by kernel_rfl, by kernel_rfl, by kernel_rfl⟩⟩
noncomputable def i_z05 : F_z05 Try.prog := ⟨101, ⟨Try.f101, Try.func101, by kernel_rfl, by kernel_rfl, by kernel_rfl, by kernel_rfl⟩⟩
noncomputable def i_z19 : F_z19 Try.prog := ⟨96, i_z05, ⟨Try.f96, Try.f96.body.getD .skip, Try.func96, by kernel_rfl, by kernel_rfl, by kernel_rfl, by kernel_rfl, by kernel_rfl⟩⟩

noncomputable def i_z18 : F_z18 Try.prog := ⟨89, i_z19, 97, ⟨99⟩, ⟨Try.f89, Try.f89.body.getD .skip, Try.func89, by kernel_rfl, by kernel_rfl, by kernel_rfl, by kernel_rfl, by kernel_rfl⟩⟩
noncomputable def i_z17 : F_z17 Try.prog := ⟨73, i_z18, ⟨Try.f73, Try.f73.body.getD .skip, Try.func73, by kernel_rfl, by kernel_rfl, by kernel_rfl, by kernel_rfl, by kernel_rfl⟩⟩
noncomputable def i_z16 : F_z16 Try.prog := ⟨58, i_z17, ⟨Try.f58, Try.f58.body.getD .skip, Try.func58, by kernel_rfl, by kernel_rfl, by kernel_rfl, by kernel_rfl, by kernel_rfl⟩⟩
noncomputable def i_z0g : F_z0g Try.prog := ⟨33, ⟨Try.f33, Try.f33.body.getD .skip, Try.func33, by kernel_rfl, by kernel_rfl, by kernel_rfl, by kernel_rfl, by kernel_rfl⟩⟩
noncomputable def i_z0h : F_z0h Try.prog := ⟨34, i_z16, i_z0g, ⟨Try.f34, Try.f34.body.getD .skip, Try.func34, by kernel_rfl, by kernel_rfl, by kernel_rfl, by kernel_rfl, by kernel_rfl⟩⟩
noncomputable def i_z0d : F_z0d Try.prog := ⟨59, ⟨Try.f59, Try.f59.body.getD .skip, Try.func59, by kernel_rfl, by kernel_rfl, by kernel_rfl, by kernel_rfl, by kernel_rfl⟩⟩
noncomputable def i_z0s : F_z0s Try.prog := ⟨37, i_z0d, ⟨Try.f37, Try.f37.body.getD .skip, Try.func37, by kernel_rfl, by kernel_rfl, by kernel_rfl, by kernel_rfl, by kernel_rfl⟩⟩
noncomputable def i_z0k : F_z0k Try.prog := ⟨13, ⟨Try.f13, Try.f13.body.getD .skip, Try.func13, by kernel_rfl, by kernel_rfl, by kernel_rfl, by kernel_rfl, by kernel_rfl⟩⟩
noncomputable def i_z0u : F_z0u Try.prog := ⟨40, i_z0k, ⟨Try.f40, Try.f40.body.getD .skip, Try.func40, by kernel_rfl, by kernel_rfl, by kernel_rfl, by kernel_rfl, by kernel_rfl⟩⟩
noncomputable def i_z12 : F_z12 Try.prog := ⟨41, ⟨Try.f41, Try.f41.body.getD .skip, Try.func41, by kernel_rfl, by kernel_rfl, by kernel_rfl, by kernel_rfl, by kernel_rfl⟩⟩
noncomputable def i_z10 : F_z10 Try.prog := ⟨62, ⟨Try.f62, Try.f62.body.getD .skip, Try.func62, by kernel_rfl, by kernel_rfl, by kernel_rfl, by kernel_rfl, by kernel_rfl⟩⟩

noncomputable def i_z0f : F_z0f Try.prog := ⟨63, ⟨76⟩, ⟨Try.f63, Try.f63.body.getD .skip, Try.func63, by kernel_rfl, by kernel_rfl, by kernel_rfl, by kernel_rfl, by kernel_rfl⟩⟩

noncomputable def i_z11 : F_z11 Try.prog := ⟨64, ⟨Try.f64, Try.f64.body.getD .skip, Try.func64, by kernel_rfl, by kernel_rfl, by kernel_rfl, by kernel_rfl, by kernel_rfl⟩⟩
noncomputable def i_z0z : F_z0z Try.prog := ⟨39, i_z12, i_z10, i_z0f, ⟨31⟩, i_z11, ⟨Try.f39, Try.f39.body.getD .skip, Try.func39, by kernel_rfl, by kernel_rfl, by kernel_rfl, by kernel_rfl, by kernel_rfl⟩⟩
noncomputable def i_z0v : F_z0v Try.prog := ⟨45, i_z15, i_z13, i_z14, i_z06, i_z0h, i_z0s, i_z0g, i_z0u, i_z0z, ⟨Try.f45, Try.f45.body.getD .skip, Try.func45, by kernel_rfl, by kernel_rfl, by kernel_rfl, by kernel_rfl, by kernel_rfl⟩⟩
noncomputable def i_z0y : F_z0y Try.prog := ⟨42, i_z0k, ⟨Try.f42, Try.f42.body.getD .skip, Try.func42, by kernel_rfl, by kernel_rfl, by kernel_rfl, by kernel_rfl, by kernel_rfl⟩⟩
noncomputable def i_z0w : F_z0w Try.prog := ⟨46, i_z15, i_z0g, i_z0y, i_z12, ⟨Try.f46, Try.f46.body.getD .skip, Try.func46, by kernel_rfl, by kernel_rfl, by kernel_rfl, by kernel_rfl, by kernel_rfl⟩⟩
noncomputable def i_z07 : F_z07 Try.prog := ⟨47, ⟨Try.f47, Try.f47.body.getD .skip, Try.func47, by kernel_rfl, by kernel_rfl, by kernel_rfl, by kernel_rfl, by kernel_rfl⟩⟩
noncomputable def i_z0t : F_z0t Try.prog := ⟨22, i_z13, i_z0v, i_z0w, i_z07, ⟨Try.f22, Try.f22.body.getD .skip, Try.func22, by kernel_rfl, by kernel_rfl, by kernel_rfl, by kernel_rfl, by kernel_rfl⟩⟩
noncomputable def i_z0i : F_z0i Try.prog := ⟨5, i_z09, ⟨21⟩, i_z0t, ⟨Try.f5, Try.f5.body.getD .skip, Try.func5, by kernel_rfl, by kernel_rfl, by kernel_rfl, by kernel_rfl, by kernel_rfl⟩⟩
noncomputable def i_z0x : F_z0x Try.prog := ⟨35, ⟨Try.f35, Try.f35.body.getD .skip, Try.func35, by kernel_rfl, by kernel_rfl, by kernel_rfl, by kernel_rfl, by kernel_rfl⟩⟩
noncomputable def i_z0p : F_z0p Try.prog := ⟨10, i_z0g, i_z0h, i_z06, i_z0x, ⟨Try.f10, Try.f10.body.getD .skip, Try.func10, by kernel_rfl, by kernel_rfl, by kernel_rfl, by kernel_rfl, by kernel_rfl⟩⟩
noncomputable def i_z0n : F_z0n Try.prog := ⟨15, i_z06, ⟨Try.f15, Try.f15.body.getD .skip, Try.func15, by kernel_rfl, by kernel_rfl, by kernel_rfl, by kernel_rfl, by kernel_rfl⟩⟩
noncomputable def i_z08 : F_z08 Try.prog := ⟨38, i_z06, i_z0b, i_z0c, ⟨Try.f38, Try.f38.body.getD .skip, Try.func38, by kernel_rfl, by kernel_rfl, by kernel_rfl, by kernel_rfl, by kernel_rfl⟩⟩
noncomputable def i_z0j : F_z0j Try.prog := ⟨14, i_z0g, i_z0s, i_z0z, i_z08, i_z0u, ⟨Try.f14, Try.f14.body.getD .skip, Try.func14, by kernel_rfl, by kernel_rfl, by kernel_rfl, by kernel_rfl, by kernel_rfl⟩⟩
noncomputable def i_z0q : F_z0q Try.prog := ⟨17, i_z0g, i_z12, i_z08, i_z0y, ⟨Try.f17, Try.f17.body.getD .skip, Try.func17, by kernel_rfl, by kernel_rfl, by kernel_rfl, by kernel_rfl, by kernel_rfl⟩⟩
noncomputable def i_z0l : F_z0l Try.prog := ⟨18, i_z06, ⟨Try.f18, Try.f18.body.getD .skip, Try.func18, by kernel_rfl, by kernel_rfl, by kernel_rfl, by kernel_rfl, by kernel_rfl⟩⟩
noncomputable def i_z0r : F_z0r Try.prog := ⟨19, ⟨Try.f19, Try.f19.body.getD .skip, Try.func19, by kernel_rfl, by kernel_rfl, by kernel_rfl, by kernel_rfl, by kernel_rfl⟩⟩

noncomputable def i_z0e : F_z0e Try.prog := ⟨32, ⟨57⟩, ⟨Try.f32, Try.f32.body.getD .skip, Try.func32, by kernel_rfl, by kernel_rfl, by kernel_rfl, by kernel_rfl, by kernel_rfl⟩⟩
noncomputable def i_z0m : F_z0m Try.prog := ⟨9, i_z0e, ⟨31⟩, ⟨Try.f9, Try.f9.body.getD .skip, Try.func9, by kernel_rfl, by kernel_rfl, by kernel_rfl, by kernel_rfl, by kernel_rfl⟩⟩
noncomputable def i_z1c : F_z1c Try.prog := ⟨4, i_z0i, i_z0p, i_z0n, i_z0j, i_z0q, i_z0l, i_z0r, i_z0m, ⟨Try.f4, Try.f4.body.getD .skip, Try.func4, by kernel_rfl, by kernel_rfl, by kernel_rfl, by kernel_rfl, by kernel_rfl⟩⟩
noncomputable def i_z1j : F_z1j Try.prog := ⟨6, ⟨Try.f6, Try.f6.body.getD .skip, Try.func6, by kernel_rfl, by kernel_rfl, by kernel_rfl, by kernel_rfl, by kernel_rfl⟩⟩
noncomputable def i_z1w : F_z1w Try.prog := ⟨24, ⟨Try.f24, Try.f24.body.getD .skip, Try.func24, by kernel_rfl, by kernel_rfl, by kernel_rfl, by kernel_rfl, by kernel_rfl⟩⟩
noncomputable def i_z1v : F_z1v Try.prog := ⟨23, i_z1w, ⟨Try.f23, Try.f23.body.getD .skip, Try.func23, by kernel_rfl, by kernel_rfl, by kernel_rfl, by kernel_rfl, by kernel_rfl⟩⟩
noncomputable def i_z1b : F_z1b Try.prog := ⟨7, i_z1v, ⟨Try.f7, Try.f7.body.getD .skip, Try.func7, by kernel_rfl, by kernel_rfl, by kernel_rfl, by kernel_rfl, by kernel_rfl⟩⟩
noncomputable def i_z1t : F_z1t Try.prog := ⟨48, ⟨Try.f48, Try.f48.body.getD .skip, Try.func48, by kernel_rfl, by kernel_rfl, by kernel_rfl, by kernel_rfl, by kernel_rfl⟩⟩
noncomputable def i_z1u : F_z1u Try.prog := ⟨49, i_z1t, ⟨Try.f49, Try.f49.body.getD .skip, Try.func49, by kernel_rfl, by kernel_rfl, by kernel_rfl, by kernel_rfl, by kernel_rfl⟩⟩
noncomputable def i_z1q : F_z1q Try.prog := ⟨50, ⟨Try.f50, Try.f50.body.getD .skip, Try.func50, by kernel_rfl, by kernel_rfl, by kernel_rfl, by kernel_rfl, by kernel_rfl⟩⟩
noncomputable def i_z1o : F_z1o Try.prog := ⟨25, i_z1t, i_z1u, i_z1q, ⟨Try.f25, Try.f25.body.getD .skip, Try.func25, by kernel_rfl, by kernel_rfl, by kernel_rfl, by kernel_rfl, by kernel_rfl⟩⟩
noncomputable def i_z0o : F_z0o Try.prog := ⟨26, i_z0g, i_z0h, i_z0x, ⟨Try.f26, Try.f26.body.getD .skip, Try.func26, by kernel_rfl, by kernel_rfl, by kernel_rfl, by kernel_rfl, by kernel_rfl⟩⟩
noncomputable def i_z1n : F_z1n Try.prog := ⟨27, i_z1t, i_z1u, i_z1q, ⟨Try.f27, Try.f27.body.getD .skip, Try.func27, by kernel_rfl, by kernel_rfl, by kernel_rfl, by kernel_rfl, by kernel_rfl⟩⟩
noncomputable def i_z1s : F_z1s Try.prog := ⟨51, ⟨Try.f51, Try.f51.body.getD .skip, Try.func51, by kernel_rfl, by kernel_rfl, by kernel_rfl, by kernel_rfl, by kernel_rfl⟩⟩
noncomputable def i_z1i : F_z1i Try.prog := ⟨52, ⟨Try.f52, Try.f52.body.getD .skip, Try.func52, by kernel_rfl, by kernel_rfl, by kernel_rfl, by kernel_rfl, by kernel_rfl⟩⟩
noncomputable def i_z1r : F_z1r Try.prog := ⟨53, ⟨Try.f53, Try.f53.body.getD .skip, Try.func53, by kernel_rfl, by kernel_rfl, by kernel_rfl, by kernel_rfl, by kernel_rfl⟩⟩
noncomputable def i_z1e : F_z1e Try.prog := ⟨77, ⟨Try.f77, Try.f77.body.getD .skip, Try.func77, by kernel_rfl, by kernel_rfl, by kernel_rfl, by kernel_rfl, by kernel_rfl⟩⟩
noncomputable def i_z1h : F_z1h Try.prog := ⟨69, i_z1i, i_z1e, ⟨Try.f69, Try.f69.body.getD .skip, Try.func69, by kernel_rfl, by kernel_rfl, by kernel_rfl, by kernel_rfl, by kernel_rfl⟩⟩
noncomputable def i_z1g : F_z1g Try.prog := ⟨54, i_z1h, ⟨Try.f54, Try.f54.body.getD .skip, Try.func54, by kernel_rfl, by kernel_rfl, by kernel_rfl, by kernel_rfl, by kernel_rfl⟩⟩
noncomputable def i_z1l : F_z1l Try.prog := ⟨30, ⟨Try.f30, Try.f30.body.getD .skip, Try.func30, by kernel_rfl, by kernel_rfl, by kernel_rfl, by kernel_rfl, by kernel_rfl⟩⟩
noncomputable def i_z1k : F_z1k Try.prog := ⟨28, i_z1t, i_z1s, i_z1i, i_z1r, i_z1g, i_z1l, ⟨Try.f28, Try.f28.body.getD .skip, Try.func28, by kernel_rfl, by kernel_rfl, by kernel_rfl, by kernel_rfl, by kernel_rfl⟩⟩
noncomputable def i_z1p : F_z1p Try.prog := ⟨29, i_z1t, i_z1s, i_z1g, i_z1l, ⟨Try.f29, Try.f29.body.getD .skip, Try.func29, by kernel_rfl, by kernel_rfl, by kernel_rfl, by kernel_rfl, by kernel_rfl⟩⟩
noncomputable def i_z1d : F_z1d Try.prog := ⟨8, i_z1w, i_z0p, i_z1o, i_z0o, i_z1n, i_z0j, i_z1k, i_z0q, i_z1p, i_z0k, i_z1l, ⟨Try.f8, Try.f8.body.getD .skip, Try.func8, by kernel_rfl, by kernel_rfl, by kernel_rfl, by kernel_rfl, by kernel_rfl⟩⟩
noncomputable def i_z1y : F_z1y Try.prog := ⟨11, ⟨Try.f11, Try.f11.body.getD .skip, Try.func11, by kernel_rfl, by kernel_rfl, by kernel_rfl, by kernel_rfl, by kernel_rfl⟩⟩
noncomputable def i_z1m : F_z1m Try.prog := ⟨12, ⟨Try.f12, Try.f12.body.getD .skip, Try.func12, by kernel_rfl, by kernel_rfl, by kernel_rfl, by kernel_rfl, by kernel_rfl⟩⟩
noncomputable def i_z1x : F_z1x Try.prog := ⟨16, ⟨Try.f16, Try.f16.body.getD .skip, Try.func16, by kernel_rfl, by kernel_rfl, by kernel_rfl, by kernel_rfl, by kernel_rfl⟩⟩
noncomputable def i_z1a : F_z1a Try.prog := ⟨3, i_z1c, i_z0i, i_z1j, i_z1b, i_z1d, i_z0m, i_z0p, i_z1y, i_z1m, i_z0k, i_z0j, i_z0n, i_z1x, ⟨Try.f3, Try.f3.body.getD .skip, Try.func3, by kernel_rfl, by kernel_rfl, by kernel_rfl, by kernel_rfl, by kernel_rfl⟩⟩
def renW : Go.Shelf.Ren := ⟨fun | 5 => 59 | 7 => 74 | n => n, fun | 23 => 76 | 25 => 9 | 3 => 23 | 4 => 4 | 20 => 20 | n => n, fun | n => n⟩
theorem layW : Go.Proofs.SlLaysW.n5 Try.prog renW where
  mixed := by kernel_rfl
  f5 := ⟨ "maps.Clone[map[string][]byte,string,[]byte]", by decide, Try.func59.trans (congrArg some (by kernel_rfl))⟩
  f7 := Try.func74.trans (congrArg some (by kernel_rfl))
  t4 := Try.underlying4
  a4 := Try.isAgg4
  z4 := Try.sizeOf4
  v4 := Try.zeroValue4
  t20 := Try.underlying20
  a20 := Try.isAgg20
  z20 := Try.sizeOf20
  v20 := Try.zeroValue20
  t23 := Try.underlying76
  a23 := Try.isAgg76
  z23 := Try.sizeOf76
  v23 := Try.zeroValue76
theorem mcl : MClone Try.prog 59 := mclone_of layW (enters_of Try.func59 (by kernel_rfl) rfl)
def renM : Go.Shelf.Ren := ⟨fun | 6 => 56 | 8 => 72 | 9 => 71 | 19 => 87 | 20 => 88 | 21 => 78 | 22 => 79 | 23 => 80 | 24 => 81 | 25 => 82 | 26 => 83 | 27 => 84 | 28 => 85 | 29 => 86 | 36 => 90 | 31 => 91 | 32 => 92 | 37 => 93 | 38 => 94 | 39 => 95 | 41 => 100 | n => n, fun | 27 => 39 | 29 => 9 | 3 => 3 | 32 => 117 | 26 => 39 | 0 => 0 | 44 => 109 | 46 => 134 | 4 => 4 | 36 => 125 | 35 => 124 | 41 => 130 | 5 => 5 | 9 => 9 | 53 => 136 | 57 => 140 | 63 => 143 | 64 => 144 | n => n, fun | n => n⟩
theorem layM : Go.Proofs.SlLaysM.n6 Try.prog renM where
  mixed := by kernel_rfl
  f6 := ⟨ "slices.Sort[[]string,string]", by decide, Try.func56.trans (congrArg some (by kernel_rfl))⟩
  f8 := Try.func72.trans (congrArg some (by kernel_rfl))
  f9 := ⟨ "slices.pdqsortOrdered[string]", by decide, Try.func71.trans (congrArg some (by kernel_rfl))⟩
  f19 := Try.func87.trans (congrArg some (by kernel_rfl))
  f20 := Try.func88.trans (congrArg some (by kernel_rfl))
  f21 := ⟨ "slices.insertionSortOrdered[string]", by decide, Try.func78.trans (congrArg some (by kernel_rfl))⟩
  f22 := ⟨ "slices.heapSortOrdered[string]", by decide, Try.func79.trans (congrArg some (by kernel_rfl))⟩
  f23 := ⟨ "slices.breakPatternsOrdered[string]", by decide, Try.func80.trans (congrArg some (by kernel_rfl))⟩
  f24 := ⟨ "slices.choosePivotOrdered[string]", by decide, Try.func81.trans (congrArg some (by kernel_rfl))⟩
  f25 := ⟨ "slices.reverseRangeOrdered[string]", by decide, Try.func82.trans (congrArg some (by kernel_rfl))⟩
  f26 := ⟨ "slices.partialInsertionSortOrdered[string]", by decide, Try.func83.trans (congrArg some (by kernel_rfl))⟩
  f27 := ⟨ "cmp.Less[string]", by decide, Try.func84.trans (congrArg some (by kernel_rfl))⟩
  f28 := ⟨ "slices.partitionEqualOrdered[string]", by decide, Try.func85.trans (congrArg some (by kernel_rfl))⟩
  f29 := ⟨ "slices.partitionOrdered[string]", by decide, Try.func86.trans (congrArg some (by kernel_rfl))⟩
  f31 := Try.func91.trans (congrArg some (by kernel_rfl))
  f32 := Try.func92.trans (congrArg some (by kernel_rfl))
  f36 := ⟨ "slices.siftDownOrdered[string]", by decide, Try.func90.trans (congrArg some (by kernel_rfl))⟩
  f37 := ⟨ "slices.medianAdjacentOrdered[string]", by decide, Try.func93.trans (congrArg some (by kernel_rfl))⟩
  f38 := ⟨ "slices.medianOrdered[string]", by decide, Try.func94.trans (congrArg some (by kernel_rfl))⟩
  f39 := ⟨ "cmp.isNaN[string]", by decide, Try.func95.trans (congrArg some (by kernel_rfl))⟩
  f41 := ⟨ "slices.order2Ordered[string]", by decide, Try.func100.trans (congrArg some (by kernel_rfl))⟩
  t0 := Try.underlying0
  a0 := Try.isAgg0
  z0 := Try.sizeOf0
  v0 := Try.zeroValue0
  t3 := Try.underlying3
  a3 := Try.isAgg3
  z3 := Try.sizeOf3
  v3 := Try.zeroValue3
  t4 := Try.underlying4
  a4 := Try.isAgg4
  z4 := Try.sizeOf4
  v4 := Try.zeroValue4
  t5 := Try.underlying5
  a5 := Try.isAgg5
  z5 := Try.sizeOf5
  v5 := Try.zeroValue5
  t9 := Try.underlying9
  a9 := Try.isAgg9
  z9 := Try.sizeOf9
  v9 := Try.zeroValue9
  t26 := Try.underlying39
  a26 := Try.isAgg39
  z26 := Try.sizeOf39
  v26 := Try.zeroValue39
  t27 := Try.underlying39
  a27 := Try.isAgg39
  z27 := Try.sizeOf39
  v27 := Try.zeroValue39
  t29 := Try.underlying9
  a29 := Try.isAgg9
  z29 := Try.sizeOf9
  v29 := Try.zeroValue9
  t32 := Try.underlying117
  a32 := Try.isAgg117
  z32 := Try.sizeOf117
  v32 := Try.zeroValue117
  t35 := Try.underlying124
  a35 := Try.isAgg124
  z35 := Try.sizeOf124
  v35 := Try.zeroValue124
  t36 := Try.underlying125
  a36 := Try.isAgg125
  z36 := Try.sizeOf125
  v36 := Try.zeroValue125
  t41 := Try.underlying130
  a41 := Try.isAgg130
  z41 := Try.sizeOf130
  v41 := Try.zeroValue130
  t44 := Try.underlying109
  a44 := Try.isAgg109
  z44 := Try.sizeOf109
  v44 := Try.zeroValue109
  t46 := Try.underlying134
  a46 := Try.isAgg134
  z46 := Try.sizeOf134
  v46 := Try.zeroValue134
  t53 := Try.underlying136
  a53 := Try.isAgg136
  z53 := Try.sizeOf136
  v53 := Try.zeroValue136
  t57 := Try.underlying140
  a57 := Try.isAgg140
  z57 := Try.sizeOf140
  v57 := Try.zeroValue140
  t63 := Try.underlying143
  a63 := Try.isAgg143
  z63 := Try.sizeOf143
  v63 := Try.zeroValue143
  t64 := Try.underlying144
  a64 := Try.isAgg144
  z64 := Try.sizeOf144
  v64 := Try.zeroValue144
def renS : Go.Shelf.Ren := ⟨fun | 6 => 31 | 8 => 55 | 9 => 56 | 11 => 70 | 13 => 72 | 12 => 71 | 23 => 87 | 24 => 88 | 14 => 78 | 15 => 79 | 16 => 80 | 17 => 81 | 18 => 82 | 19 => 83 | 20 => 84 | 21 => 85 | 22 => 86 | 25 => 90 | 26 => 91 | 27 => 92 | 28 => 93 | 29 => 94 | 30 => 95 | 31 => 100 | n => n, fun | 26 => 9 | 28 => 74 | 24 => 39 | 0 => 0 | 3 => 3 | 37 => 117 | 48 => 109 | 50 => 134 | 4 => 4 | 40 => 125 | 39 => 124 | 45 => 130 | 5 => 5 | 9 => 9 | 51 => 136 | 55 => 140 | 57 => 143 | 58 => 144 | 33 => 77 | n => n, fun | n => n⟩
theorem layS : Go.Proofs.SlLaysZ.n6 Try.prog renS where
  mixed := by kernel_rfl
  f6 := ⟨ "slices.Sorted[string]", by decide, Try.func31.trans (congrArg some (by kernel_rfl))⟩
  f8 := ⟨ "slices.Collect[string]", by decide, Try.func55.trans (congrArg some (by kernel_rfl))⟩
  f11 := ⟨ "slices.AppendSeq[[]string,string]", by decide, Try.func70.trans (congrArg some (by kernel_rfl))⟩
  t0 := Try.underlying0
  a0 := Try.isAgg0
  z0 := Try.sizeOf0
  v0 := Try.zeroValue0
  t24 := Try.underlying39
  a24 := Try.isAgg39
  z24 := Try.sizeOf39
  v24 := Try.zeroValue39
  t26 := Try.underlying9
  a26 := Try.isAgg9
  z26 := Try.sizeOf9
  v26 := Try.zeroValue9
  t28 := Try.underlying74
  a28 := Try.isAgg74
  z28 := Try.sizeOf74
  v28 := Try.zeroValue74
  i26 := by kernel_rfl
def renKC : Go.Shelf.Ren := ⟨fun | 10 => 76 | n => n, fun | 33 => 77 | 23 => 81 | 0 => 0 | 4 => 4 | 26 => 9 | 3 => 80 | n => n, fun | n => n⟩
theorem layKC : Go.Proofs.SlLaysZ.n10 Try.prog renKC where
  mixed := by kernel_rfl
  f10 := ⟨ "maps.Keys[map[string]warehouse/store.change,string,warehouse/store.change]$1", by decide, Try.func76.trans (congrArg some (by kernel_rfl))⟩
  t0 := Try.underlying0
  a0 := Try.isAgg0
  z0 := Try.sizeOf0
  v0 := Try.zeroValue0
  t4 := Try.underlying4
  a4 := Try.isAgg4
  z4 := Try.sizeOf4
  v4 := Try.zeroValue4
  t23 := Try.underlying81
  a23 := Try.isAgg81
  z23 := Try.sizeOf81
  v23 := Try.zeroValue81
  t26 := Try.underlying9
  a26 := Try.isAgg9
  z26 := Try.sizeOf9
  v26 := Try.zeroValue9
  t33 := Try.underlying77
  a33 := Try.isAgg77
  z33 := Try.sizeOf77
  v33 := Try.zeroValue77
theorem skC : SKeys Try.prog 31 76 := skeys_of nodraw layKC layS layM rfl (enters_of Try.func56 (by kernel_rfl) rfl) (enters_of Try.func76 (by kernel_rfl) rfl) (enters_of Try.func31 (by kernel_rfl) rfl)
def renKB : Go.Shelf.Ren := ⟨fun | 10 => 57 | n => n, fun | 33 => 77 | 23 => 76 | 0 => 0 | 4 => 4 | 26 => 9 | 3 => 23 | n => n, fun | n => n⟩
theorem layKB : Go.Proofs.SlLaysZ.n10 Try.prog renKB where
  mixed := by kernel_rfl
  f10 := ⟨ "maps.Keys[map[string][]byte,string,[]byte]$1", by decide, Try.func57.trans (congrArg some (by kernel_rfl))⟩
  t0 := Try.underlying0
  a0 := Try.isAgg0
  z0 := Try.sizeOf0
  v0 := Try.zeroValue0
  t4 := Try.underlying4
  a4 := Try.isAgg4
  z4 := Try.sizeOf4
  v4 := Try.zeroValue4
  t23 := Try.underlying76
  a23 := Try.isAgg76
  z23 := Try.sizeOf76
  v23 := Try.zeroValue76
  t26 := Try.underlying9
  a26 := Try.isAgg9
  z26 := Try.sizeOf9
  v26 := Try.zeroValue9
  t33 := Try.underlying77
  a33 := Try.isAgg77
  z33 := Try.sizeOf77
  v33 := Try.zeroValue77
theorem skB : SKeys Try.prog 31 57 := skeys_of nodraw layKB layS layM rfl (enters_of Try.func56 (by kernel_rfl) rfl) (enters_of Try.func57 (by kernel_rfl) rfl) (enters_of Try.func31 (by kernel_rfl) rfl)

theorem lifted (os : Os) (started : os.Started) (H : Type) (enc : TypeId × Value → H) :
    ReturnsInHanded {} Try.checked os 3 .any (Rows.storeApartSpec.pre6 enc Try.prog Try.f3 Rows.storeApartRow.domain false) (Rows.storeApartSpec.post enc Try.prog Try.f3 false true false false) := by
  refine lifted_of_law (C := Try.checked) (n := 7) (tb := 4) (shs := [(false, [.slice [.int .i64]]), (false, [.slice [.int .u8]])]) own started (by kernel_rfl) Try.func3
    (ChangeSpec.witness6 (enc := enc) (C := Try.checked) false ⟨#[], #[.slice none 0 0, .slice none 0 0], []⟩ 8 (by kernel_rfl) (by kernel_rfl) (by kernel_rfl) (by kernel_rfl))
    laidOut (by kernel_rfl) (fun ds hd => ?_) rfl (by kernel_rfl) Try.underlying4 (by kernel_rfl) i_z1a.has ?_
  · have hd : ds.length = 2 := hd.trans (by kernel_rfl)
    obtain ⟨d0, d1, rfl⟩ : ∃ d0 d1, ds = [d0, d1] := by
      match ds, hd with
      | [d0, d1], _ => exact ⟨d0, d1, rfl⟩
    rfl
  · intro xs h
    obtain ⟨y0, xs, rfl, p0, h⟩ := argsOk_cons h
    obtain ⟨y1, xs, rfl, p1, h⟩ := argsOk_cons h
    cases argsOk_nil h
    obtain ⟨x0, rfl, h0a, h0b⟩ := argOk_ints p0
    obtain ⟨x1, rfl, h1a, h1b⟩ := argOk_ints p1
    exact law_StoreApart i_z1a mcl skC (Try.jread nodraw) (Try.jread nodraw) mcl skC skB mcl skC (Try.jread nodraw) (Try.jread nodraw) mcl skC skB mcl skC x0 x1 (fun x hx => bounds_u8 (h1b x hx))

theorem over : Rows.storeApartRow.holds Try.pinned (OpenSpec.ofChange Rows.storeApartSpec) :=
  OpenClaim.holds_of_wide 3 Try.f3 rfl rfl rfl rfl rfl rfl rfl ⟨rfl, rfl, rfl, rfl, rfl⟩ rfl rfl rfl rfl rfl (by kernel_rfl) Try.func3 (by kernel_rfl)
    (of_decide_eq_true (by kernel_rfl)) (by unfold Func.isWrapper; first | (rw [if_pos (by decide +kernel)]; kernel_rfl) | (rw [if_neg (by decide +kernel)]; exact ⟨rfl, rfl⟩))
    (fun os started H enc _ => lifted os started H enc)

theorem proved : Rows.StoreApartSaid := over
#print axioms proved
end Go.Proofs.Ytbjodpkinpnebaa.storeApart
