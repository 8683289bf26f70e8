/-
  The law StoreRestarts holds for every input.
  No condition.
-/
import Derived.Test.YtbjodpkinpnebaaGreatRows
import Derived.Test.YtbjodpkinpnebaaGreatZ8

import Derived.KernelRfl
import Derived.ProofKit
import Derived.WalkKit
namespace Go.Proofs.YtbjodpkinpnebaaGreat.storeRestarts
open Go.AW Go.ChangeShapes Go.WideShapes Go.ChangeAt Go.RowKit
set_option linter.unusedVariables false
set_option maxRecDepth 100000

instance theDraws : Draws := ⟨False⟩
theorem nodraw : ¬ Draws.up := fun h => h
theorem own : ownKnob Tryz.prog.godebug = none := by kernel_rfl
theorem laidOut : laidOutB Tryz.prog = true := by kernel_rfl

noncomputable def i_z0a : F_z0a Tryz.prog := ⟨159, ⟨Tryz.f159, Tryz.f159.body.getD .skip, Tryz.func159, by kernel_rfl, by kernel_rfl, by kernel_rfl, by kernel_rfl, by kernel_rfl⟩⟩
noncomputable def i_z0b : F_z0b Tryz.prog := ⟨155, ⟨Tryz.f155, Tryz.f155.body.getD .skip, Tryz.func155, by kernel_rfl, by kernel_rfl, by kernel_rfl, by kernel_rfl, by kernel_rfl⟩⟩
noncomputable def i_z00 : F_z00 Tryz.prog := ⟨203, ⟨Tryz.f203, Tryz.f203.body.getD .skip, Tryz.func203, by kernel_rfl, by kernel_rfl, by kernel_rfl, by kernel_rfl, by kernel_rfl⟩⟩
noncomputable def i_z0c : F_z0c Tryz.prog := ⟨156, i_z0b, i_z00, ⟨Tryz.f156, Tryz.f156.body.getD .skip, Tryz.func156, by kernel_rfl, by kernel_rfl, by kernel_rfl, by kernel_rfl, by kernel_rfl⟩⟩

noncomputable def i_z06 : F_z06 Tryz.prog := ⟨63, ⟨Tryz.f63, Tryz.f63.body.getD .skip, Tryz.func63, by kernel_rfl, by kernel_rfl, by kernel_rfl, by kernel_rfl, by kernel_rfl⟩⟩
noncomputable def i_z09 : F_z09 Tryz.prog := ⟨51, ⟨52⟩, i_z06, ⟨Tryz.f51, Tryz.f51.body.getD .skip, Tryz.func51, by kernel_rfl, by kernel_rfl, by kernel_rfl, by kernel_rfl, by kernel_rfl⟩⟩
noncomputable def i_z15 : F_z15 Tryz.prog := ⟨131, ⟨Tryz.f131, Tryz.f131.body.getD .skip, Tryz.func131, by kernel_rfl, by kernel_rfl, by kernel_rfl, by kernel_rfl, by kernel_rfl⟩⟩
noncomputable def i_z14 : F_z14 Tryz.prog := ⟨110, i_z15, ⟨Tryz.f110, Tryz.f110.body.getD .skip, Tryz.func110, by kernel_rfl, by kernel_rfl, by kernel_rfl, by kernel_rfl, by kernel_rfl⟩⟩
noncomputable def i_z16 : F_z16 Tryz.prog := ⟨129, i_z14, i_z15, ⟨Tryz.f129, Tryz.f129.body.getD .skip, Tryz.func129, by kernel_rfl, by kernel_rfl, by kernel_rfl, by kernel_rfl, by kernel_rfl⟩⟩
noncomputable def i_z05 : F_z05 Tryz.prog := ⟨293, ⟨Tryz.f293, Tryz.func293, by kernel_rfl, by kernel_rfl, by kernel_rfl, by kernel_rfl⟩⟩
noncomputable def i_z1a : F_z1a Tryz.prog := ⟨283, i_z05, ⟨Tryz.f283, Tryz.f283.body.getD .skip, Tryz.func283, by kernel_rfl, by kernel_rfl, by kernel_rfl, by kernel_rfl, by kernel_rfl⟩⟩

noncomputable def i_z19 : F_z19 Tryz.prog := ⟨249, i_z1a, 284, ⟨286⟩, ⟨Tryz.f249, Tryz.f249.body.getD .skip, Tryz.func249, by kernel_rfl, by kernel_rfl, by kernel_rfl, by kernel_rfl, by kernel_rfl⟩⟩
noncomputable def i_z18 : F_z18 Tryz.prog := ⟨201, i_z19, ⟨Tryz.f201, Tryz.f201.body.getD .skip, Tryz.func201, by kernel_rfl, by kernel_rfl, by kernel_rfl, by kernel_rfl, by kernel_rfl⟩⟩
noncomputable def i_z17 : F_z17 Tryz.prog := ⟨153, i_z18, ⟨Tryz.f153, Tryz.f153.body.getD .skip, Tryz.func153, by kernel_rfl, by kernel_rfl, by kernel_rfl, by kernel_rfl, by kernel_rfl⟩⟩
noncomputable def i_z0g : F_z0g Tryz.prog := ⟨100, ⟨Tryz.f100, Tryz.f100.body.getD .skip, Tryz.func100, by kernel_rfl, by kernel_rfl, by kernel_rfl, by kernel_rfl, by kernel_rfl⟩⟩
noncomputable def i_z0h : F_z0h Tryz.prog := ⟨101, i_z17, i_z0g, ⟨Tryz.f101, Tryz.f101.body.getD .skip, Tryz.func101, by kernel_rfl, by kernel_rfl, by kernel_rfl, by kernel_rfl, by kernel_rfl⟩⟩
noncomputable def i_z0d : F_z0d Tryz.prog := ⟨154, ⟨Tryz.f154, Tryz.f154.body.getD .skip, Tryz.func154, by kernel_rfl, by kernel_rfl, by kernel_rfl, by kernel_rfl, by kernel_rfl⟩⟩
noncomputable def i_z0t : F_z0t Tryz.prog := ⟨103, i_z0d, ⟨Tryz.f103, Tryz.f103.body.getD .skip, Tryz.func103, by kernel_rfl, by kernel_rfl, by kernel_rfl, by kernel_rfl, by kernel_rfl⟩⟩
noncomputable def i_z0k : F_z0k Tryz.prog := ⟨62, ⟨Tryz.f62, Tryz.f62.body.getD .skip, Tryz.func62, by kernel_rfl, by kernel_rfl, by kernel_rfl, by kernel_rfl, by kernel_rfl⟩⟩
noncomputable def i_z0v : F_z0v Tryz.prog := ⟨106, i_z0k, ⟨Tryz.f106, Tryz.f106.body.getD .skip, Tryz.func106, by kernel_rfl, by kernel_rfl, by kernel_rfl, by kernel_rfl, by kernel_rfl⟩⟩
noncomputable def i_z13 : F_z13 Tryz.prog := ⟨67, ⟨Tryz.f67, Tryz.f67.body.getD .skip, Tryz.func67, by kernel_rfl, by kernel_rfl, by kernel_rfl, by kernel_rfl, by kernel_rfl⟩⟩
noncomputable def i_z11 : F_z11 Tryz.prog := ⟨69, ⟨Tryz.f69, Tryz.f69.body.getD .skip, Tryz.func69, by kernel_rfl, by kernel_rfl, by kernel_rfl, by kernel_rfl, by kernel_rfl⟩⟩

noncomputable def i_z0f : F_z0f Tryz.prog := ⟨65, ⟨115⟩, ⟨Tryz.f65, Tryz.f65.body.getD .skip, Tryz.func65, by kernel_rfl, by kernel_rfl, by kernel_rfl, by kernel_rfl, by kernel_rfl⟩⟩

noncomputable def i_z12 : F_z12 Tryz.prog := ⟨68, ⟨Tryz.f68, Tryz.f68.body.getD .skip, Tryz.func68, by kernel_rfl, by kernel_rfl, by kernel_rfl, by kernel_rfl, by kernel_rfl⟩⟩
noncomputable def i_z10 : F_z10 Tryz.prog := ⟨105, i_z13, i_z11, i_z0f, ⟨64⟩, i_z12, ⟨Tryz.f105, Tryz.f105.body.getD .skip, Tryz.func105, by kernel_rfl, by kernel_rfl, by kernel_rfl, by kernel_rfl, by kernel_rfl⟩⟩
noncomputable def i_z0w : F_z0w Tryz.prog := ⟨111, i_z16, i_z14, i_z15, i_z06, i_z0h, i_z0t, i_z0g, i_z0v, i_z10, ⟨Tryz.f111, Tryz.f111.body.getD .skip, Tryz.func111, by kernel_rfl, by kernel_rfl, by kernel_rfl, by kernel_rfl, by kernel_rfl⟩⟩
noncomputable def i_z0z : F_z0z Tryz.prog := ⟨107, i_z0k, ⟨Tryz.f107, Tryz.f107.body.getD .skip, Tryz.func107, by kernel_rfl, by kernel_rfl, by kernel_rfl, by kernel_rfl, by kernel_rfl⟩⟩
noncomputable def i_z0x : F_z0x Tryz.prog := ⟨112, i_z16, i_z0g, i_z0z, i_z13, ⟨Tryz.f112, Tryz.f112.body.getD .skip, Tryz.func112, by kernel_rfl, by kernel_rfl, by kernel_rfl, by kernel_rfl, by kernel_rfl⟩⟩
noncomputable def i_z07 : F_z07 Tryz.prog := ⟨77, ⟨Tryz.f77, Tryz.f77.body.getD .skip, Tryz.func77, by kernel_rfl, by kernel_rfl, by kernel_rfl, by kernel_rfl, by kernel_rfl⟩⟩
noncomputable def i_z0u : F_z0u Tryz.prog := ⟨53, i_z14, i_z0w, i_z0x, i_z07, ⟨Tryz.f53, Tryz.f53.body.getD .skip, Tryz.func53, by kernel_rfl, by kernel_rfl, by kernel_rfl, by kernel_rfl, by kernel_rfl⟩⟩
noncomputable def i_z0i : F_z0i Tryz.prog := ⟨18, i_z09, ⟨52⟩, i_z0u, ⟨Tryz.f18, Tryz.f18.body.getD .skip, Tryz.func18, by kernel_rfl, by kernel_rfl, by kernel_rfl, by kernel_rfl, by kernel_rfl⟩⟩
noncomputable def i_z0y : F_z0y Tryz.prog := ⟨102, ⟨Tryz.f102, Tryz.f102.body.getD .skip, Tryz.func102, by kernel_rfl, by kernel_rfl, by kernel_rfl, by kernel_rfl, by kernel_rfl⟩⟩
noncomputable def i_z0p : F_z0p Tryz.prog := ⟨35, i_z0g, i_z0h, i_z06, i_z0y, ⟨Tryz.f35, Tryz.f35.body.getD .skip, Tryz.func35, by kernel_rfl, by kernel_rfl, by kernel_rfl, by kernel_rfl, by kernel_rfl⟩⟩
noncomputable def i_z0n : F_z0n Tryz.prog := ⟨36, i_z06, ⟨Tryz.f36, Tryz.f36.body.getD .skip, Tryz.func36, by kernel_rfl, by kernel_rfl, by kernel_rfl, by kernel_rfl, by kernel_rfl⟩⟩
noncomputable def i_z08 : F_z08 Tryz.prog := ⟨104, i_z06, i_z0b, i_z0c, ⟨Tryz.f104, Tryz.f104.body.getD .skip, Tryz.func104, by kernel_rfl, by kernel_rfl, by kernel_rfl, by kernel_rfl, by kernel_rfl⟩⟩
noncomputable def i_z0j : F_z0j Tryz.prog := ⟨37, i_z0g, i_z0t, i_z10, i_z08, i_z0v, ⟨Tryz.f37, Tryz.f37.body.getD .skip, Tryz.func37, by kernel_rfl, by kernel_rfl, by kernel_rfl, by kernel_rfl, by kernel_rfl⟩⟩
noncomputable def i_z0r : F_z0r Tryz.prog := ⟨38, i_z0g, i_z13, i_z08, i_z0z, ⟨Tryz.f38, Tryz.f38.body.getD .skip, Tryz.func38, by kernel_rfl, by kernel_rfl, by kernel_rfl, by kernel_rfl, by kernel_rfl⟩⟩
noncomputable def i_z0l : F_z0l Tryz.prog := ⟨23, i_z06, ⟨Tryz.f23, Tryz.f23.body.getD .skip, Tryz.func23, by kernel_rfl, by kernel_rfl, by kernel_rfl, by kernel_rfl, by kernel_rfl⟩⟩
noncomputable def i_z0s : F_z0s Tryz.prog := ⟨39, ⟨Tryz.f39, Tryz.f39.body.getD .skip, Tryz.func39, by kernel_rfl, by kernel_rfl, by kernel_rfl, by kernel_rfl, by kernel_rfl⟩⟩

noncomputable def i_z0e : F_z0e Tryz.prog := ⟨108, ⟨157⟩, ⟨Tryz.f108, Tryz.f108.body.getD .skip, Tryz.func108, by kernel_rfl, by kernel_rfl, by kernel_rfl, by kernel_rfl, by kernel_rfl⟩⟩
noncomputable def i_z0m : F_z0m Tryz.prog := ⟨40, i_z0e, ⟨64⟩, ⟨Tryz.f40, Tryz.f40.body.getD .skip, Tryz.func40, by kernel_rfl, by kernel_rfl, by kernel_rfl, by kernel_rfl, by kernel_rfl⟩⟩
noncomputable def i_z1d : F_z1d Tryz.prog := ⟨8, i_z0i, i_z0p, i_z0n, i_z0j, i_z0r, i_z0l, i_z0s, i_z0m, ⟨Tryz.f8, Tryz.f8.body.getD .skip, Tryz.func8, by kernel_rfl, by kernel_rfl, by kernel_rfl, by kernel_rfl, by kernel_rfl⟩⟩
noncomputable def i_z1m : F_z1m Tryz.prog := ⟨10, ⟨Tryz.f10, Tryz.f10.body.getD .skip, Tryz.func10, by kernel_rfl, by kernel_rfl, by kernel_rfl, by kernel_rfl, by kernel_rfl⟩⟩
noncomputable def i_z28 : F_z28 Tryz.prog := ⟨12, ⟨Tryz.f12, Tryz.f12.body.getD .skip, Tryz.func12, by kernel_rfl, by kernel_rfl, by kernel_rfl, by kernel_rfl, by kernel_rfl⟩⟩
noncomputable def i_z27 : F_z27 Tryz.prog := ⟨43, i_z28, ⟨Tryz.f43, Tryz.f43.body.getD .skip, Tryz.func43, by kernel_rfl, by kernel_rfl, by kernel_rfl, by kernel_rfl, by kernel_rfl⟩⟩
noncomputable def i_z1c : F_z1c Tryz.prog := ⟨11, i_z27, ⟨Tryz.f11, Tryz.f11.body.getD .skip, Tryz.func11, by kernel_rfl, by kernel_rfl, by kernel_rfl, by kernel_rfl, by kernel_rfl⟩⟩
noncomputable def i_z25 : F_z25 Tryz.prog := ⟨44, ⟨Tryz.f44, Tryz.f44.body.getD .skip, Tryz.func44, by kernel_rfl, by kernel_rfl, by kernel_rfl, by kernel_rfl, by kernel_rfl⟩⟩
noncomputable def i_z26 : F_z26 Tryz.prog := ⟨45, i_z25, ⟨Tryz.f45, Tryz.f45.body.getD .skip, Tryz.func45, by kernel_rfl, by kernel_rfl, by kernel_rfl, by kernel_rfl, by kernel_rfl⟩⟩
noncomputable def i_z1y : F_z1y Tryz.prog := ⟨46, ⟨Tryz.f46, Tryz.f46.body.getD .skip, Tryz.func46, by kernel_rfl, by kernel_rfl, by kernel_rfl, by kernel_rfl, by kernel_rfl⟩⟩
noncomputable def i_z1u : F_z1u Tryz.prog := ⟨13, i_z25, i_z26, i_z1y, ⟨Tryz.f13, Tryz.f13.body.getD .skip, Tryz.func13, by kernel_rfl, by kernel_rfl, by kernel_rfl, by kernel_rfl, by kernel_rfl⟩⟩
noncomputable def i_z0o : F_z0o Tryz.prog := ⟨61, i_z0g, i_z0h, i_z0y, ⟨Tryz.f61, Tryz.f61.body.getD .skip, Tryz.func61, by kernel_rfl, by kernel_rfl, by kernel_rfl, by kernel_rfl, by kernel_rfl⟩⟩
noncomputable def i_z1t : F_z1t Tryz.prog := ⟨14, i_z25, i_z26, i_z1y, ⟨Tryz.f14, Tryz.f14.body.getD .skip, Tryz.func14, by kernel_rfl, by kernel_rfl, by kernel_rfl, by kernel_rfl, by kernel_rfl⟩⟩
noncomputable def i_z24 : F_z24 Tryz.prog := ⟨47, ⟨Tryz.f47, Tryz.f47.body.getD .skip, Tryz.func47, by kernel_rfl, by kernel_rfl, by kernel_rfl, by kernel_rfl, by kernel_rfl⟩⟩
noncomputable def i_z1k : F_z1k Tryz.prog := ⟨41, ⟨Tryz.f41, Tryz.f41.body.getD .skip, Tryz.func41, by kernel_rfl, by kernel_rfl, by kernel_rfl, by kernel_rfl, by kernel_rfl⟩⟩
noncomputable def i_z20 : F_z20 Tryz.prog := ⟨48, ⟨Tryz.f48, Tryz.f48.body.getD .skip, Tryz.func48, by kernel_rfl, by kernel_rfl, by kernel_rfl, by kernel_rfl, by kernel_rfl⟩⟩
noncomputable def i_z1g : F_z1g Tryz.prog := ⟨42, ⟨Tryz.f42, Tryz.f42.body.getD .skip, Tryz.func42, by kernel_rfl, by kernel_rfl, by kernel_rfl, by kernel_rfl, by kernel_rfl⟩⟩
noncomputable def i_z1j : F_z1j Tryz.prog := ⟨9, i_z1k, i_z1g, ⟨Tryz.f9, Tryz.f9.body.getD .skip, Tryz.func9, by kernel_rfl, by kernel_rfl, by kernel_rfl, by kernel_rfl, by kernel_rfl⟩⟩
noncomputable def i_z1i : F_z1i Tryz.prog := ⟨49, i_z1j, ⟨Tryz.f49, Tryz.f49.body.getD .skip, Tryz.func49, by kernel_rfl, by kernel_rfl, by kernel_rfl, by kernel_rfl, by kernel_rfl⟩⟩
noncomputable def i_z1p : F_z1p Tryz.prog := ⟨50, ⟨Tryz.f50, Tryz.f50.body.getD .skip, Tryz.func50, by kernel_rfl, by kernel_rfl, by kernel_rfl, by kernel_rfl, by kernel_rfl⟩⟩
noncomputable def i_z1o : F_z1o Tryz.prog := ⟨15, i_z25, i_z24, i_z1k, i_z20, i_z1i, i_z1p, ⟨Tryz.f15, Tryz.f15.body.getD .skip, Tryz.func15, by kernel_rfl, by kernel_rfl, by kernel_rfl, by kernel_rfl, by kernel_rfl⟩⟩
noncomputable def i_z1w : F_z1w Tryz.prog := ⟨16, i_z25, i_z24, i_z1i, i_z1p, ⟨Tryz.f16, Tryz.f16.body.getD .skip, Tryz.func16, by kernel_rfl, by kernel_rfl, by kernel_rfl, by kernel_rfl, by kernel_rfl⟩⟩
noncomputable def i_z1e : F_z1e Tryz.prog := ⟨22, i_z28, i_z0p, i_z1u, i_z0o, i_z1t, i_z0j, i_z1o, i_z0r, i_z1w, i_z0k, i_z1p, ⟨Tryz.f22, Tryz.f22.body.getD .skip, Tryz.func22, by kernel_rfl, by kernel_rfl, by kernel_rfl, by kernel_rfl, by kernel_rfl⟩⟩
noncomputable def i_z1q : F_z1q Tryz.prog := ⟨17, ⟨Tryz.f17, Tryz.f17.body.getD .skip, Tryz.func17, by kernel_rfl, by kernel_rfl, by kernel_rfl, by kernel_rfl, by kernel_rfl⟩⟩
noncomputable def i_z1l : F_z1l Tryz.prog := ⟨54, i_z1j, ⟨Tryz.f54, Tryz.f54.body.getD .skip, Tryz.func54, by kernel_rfl, by kernel_rfl, by kernel_rfl, by kernel_rfl, by kernel_rfl⟩⟩
noncomputable def i_z22 : F_z22 Tryz.prog := ⟨81, ⟨Tryz.f81, Tryz.f81.body.getD .skip, Tryz.func81, by kernel_rfl, by kernel_rfl, by kernel_rfl, by kernel_rfl, by kernel_rfl⟩⟩
noncomputable def i_z21 : F_z21 Tryz.prog := ⟨79, i_z22, ⟨Tryz.f79, Tryz.f79.body.getD .skip, Tryz.func79, by kernel_rfl, by kernel_rfl, by kernel_rfl, by kernel_rfl, by kernel_rfl⟩⟩
noncomputable def i_z23 : F_z23 Tryz.prog := ⟨78, i_z21, i_z22, ⟨Tryz.f78, Tryz.f78.body.getD .skip, Tryz.func78, by kernel_rfl, by kernel_rfl, by kernel_rfl, by kernel_rfl, by kernel_rfl⟩⟩
noncomputable def i_z1z : F_z1z Tryz.prog := ⟨55, i_z21, i_z23, i_z1w, i_z1t, i_z22, i_z1u, i_z1o, ⟨Tryz.f55, Tryz.f55.body.getD .skip, Tryz.func55, by kernel_rfl, by kernel_rfl, by kernel_rfl, by kernel_rfl, by kernel_rfl⟩⟩
noncomputable def i_z1n : F_z1n Tryz.prog := ⟨19, i_z1m, i_z1l, i_z1z, i_z1j, ⟨Tryz.f19, Tryz.f19.body.getD .skip, Tryz.func19, by kernel_rfl, by kernel_rfl, by kernel_rfl, by kernel_rfl, by kernel_rfl⟩⟩
noncomputable def i_z1r : F_z1r Tryz.prog := ⟨56, ⟨Tryz.f56, Tryz.f56.body.getD .skip, Tryz.func56, by kernel_rfl, by kernel_rfl, by kernel_rfl, by kernel_rfl, by kernel_rfl⟩⟩
noncomputable def i_z2a : F_z2a Tryz.prog := ⟨57, ⟨Tryz.f57, Tryz.f57.body.getD .skip, Tryz.func57, by kernel_rfl, by kernel_rfl, by kernel_rfl, by kernel_rfl, by kernel_rfl⟩⟩
noncomputable def i_z0q : F_z0q Tryz.prog := ⟨24, i_z0f, ⟨64⟩, ⟨Tryz.f24, Tryz.f24.body.getD .skip, Tryz.func24, by kernel_rfl, by kernel_rfl, by kernel_rfl, by kernel_rfl, by kernel_rfl⟩⟩
noncomputable def i_z1v : F_z1v Tryz.prog := ⟨58, ⟨Tryz.f58, Tryz.f58.body.getD .skip, Tryz.func58, by kernel_rfl, by kernel_rfl, by kernel_rfl, by kernel_rfl, by kernel_rfl⟩⟩
noncomputable def i_z1x : F_z1x Tryz.prog := ⟨59, ⟨Tryz.f59, Tryz.f59.body.getD .skip, Tryz.func59, by kernel_rfl, by kernel_rfl, by kernel_rfl, by kernel_rfl, by kernel_rfl⟩⟩
noncomputable def i_z1s : F_z1s Tryz.prog := ⟨60, ⟨Tryz.f60, Tryz.f60.body.getD .skip, Tryz.func60, by kernel_rfl, by kernel_rfl, by kernel_rfl, by kernel_rfl, by kernel_rfl⟩⟩
noncomputable def i_z29 : F_z29 Tryz.prog := ⟨30, ⟨Tryz.f30, Tryz.f30.body.getD .skip, Tryz.func30, by kernel_rfl, by kernel_rfl, by kernel_rfl, by kernel_rfl, by kernel_rfl⟩⟩
noncomputable def i_z1f : F_z1f Tryz.prog := ⟨20, i_z1r, i_z0m, i_z2a, i_z0q, i_z1v, i_z0s, i_z1x, i_z0n, i_z1s, i_z29, i_z0l, i_z1q, ⟨Tryz.f20, Tryz.f20.body.getD .skip, Tryz.func20, by kernel_rfl, by kernel_rfl, by kernel_rfl, by kernel_rfl, by kernel_rfl⟩⟩
noncomputable def i_z1b : F_z1b Tryz.prog := ⟨5, i_z1d, i_z0i, i_z1m, i_z1c, i_z1e, i_z1q, i_z1n, i_z0l, i_z28, i_z1f, i_z0q, ⟨Tryz.f5, Tryz.f5.body.getD .skip, Tryz.func5, by kernel_rfl, by kernel_rfl, by kernel_rfl, by kernel_rfl, by kernel_rfl⟩⟩
def renW : Go.Shelf.Ren := ⟨fun | 5 => 154 | 7 => 202 | n => n, fun | 23 => 108 | 25 => 9 | 3 => 22 | 4 => 4 | 20 => 20 | n => n, fun | n => n⟩
theorem layW : Go.Proofs.SlLaysW.n5 Tryz.prog renW where
  mixed := by kernel_rfl
  f5 := ⟨ "maps.Clone[map[string][]byte,string,[]byte]", by decide, Tryz.func154.trans (congrArg some (by kernel_rfl))⟩
  f7 := Tryz.func202.trans (congrArg some (by kernel_rfl))
  t4 := Tryz.underlying4
  a4 := Tryz.isAgg4
  z4 := Tryz.sizeOf4
  v4 := Tryz.zeroValue4
  t20 := Tryz.underlying20
  a20 := Tryz.isAgg20
  z20 := Tryz.sizeOf20
  v20 := Tryz.zeroValue20
  t23 := Tryz.underlying108
  a23 := Tryz.isAgg108
  z23 := Tryz.sizeOf108
  v23 := Tryz.zeroValue108
theorem mcl : MClone Tryz.prog 154 := mclone_of layW (enters_of Tryz.func154 (by kernel_rfl) rfl)
def renM : Go.Shelf.Ren := ⟨fun | 6 => 114 | 8 => 162 | 9 => 161 | 19 => 213 | 20 => 214 | 21 => 204 | 22 => 205 | 23 => 206 | 24 => 207 | 25 => 208 | 26 => 209 | 27 => 210 | 28 => 211 | 29 => 212 | 36 => 250 | 31 => 251 | 32 => 252 | 37 => 253 | 38 => 254 | 39 => 255 | 41 => 287 | n => n, fun | 27 => 56 | 29 => 9 | 3 => 3 | 32 => 225 | 26 => 56 | 0 => 0 | 44 => 95 | 46 => 190 | 4 => 4 | 36 => 281 | 35 => 280 | 41 => 286 | 5 => 5 | 9 => 9 | 53 => 328 | 57 => 332 | 63 => 352 | 64 => 353 | n => n, fun | n => n⟩
theorem layM : Go.Proofs.SlLaysM.n6 Tryz.prog renM where
  mixed := by kernel_rfl
  f6 := ⟨ "slices.Sort[[]string,string]", by decide, Tryz.func114.trans (congrArg some (by kernel_rfl))⟩
  f8 := Tryz.func162.trans (congrArg some (by kernel_rfl))
  f9 := ⟨ "slices.pdqsortOrdered[string]", by decide, Tryz.func161.trans (congrArg some (by kernel_rfl))⟩
  f19 := Tryz.func213.trans (congrArg some (by kernel_rfl))
  f20 := Tryz.func214.trans (congrArg some (by kernel_rfl))
  f21 := ⟨ "slices.insertionSortOrdered[string]", by decide, Tryz.func204.trans (congrArg some (by kernel_rfl))⟩
  f22 := ⟨ "slices.heapSortOrdered[string]", by decide, Tryz.func205.trans (congrArg some (by kernel_rfl))⟩
  f23 := ⟨ "slices.breakPatternsOrdered[string]", by decide, Tryz.func206.trans (congrArg some (by kernel_rfl))⟩
  f24 := ⟨ "slices.choosePivotOrdered[string]", by decide, Tryz.func207.trans (congrArg some (by kernel_rfl))⟩
  f25 := ⟨ "slices.reverseRangeOrdered[string]", by decide, Tryz.func208.trans (congrArg some (by kernel_rfl))⟩
  f26 := ⟨ "slices.partialInsertionSortOrdered[string]", by decide, Tryz.func209.trans (congrArg some (by kernel_rfl))⟩
  f27 := ⟨ "cmp.Less[string]", by decide, Tryz.func210.trans (congrArg some (by kernel_rfl))⟩
  f28 := ⟨ "slices.partitionEqualOrdered[string]", by decide, Tryz.func211.trans (congrArg some (by kernel_rfl))⟩
  f29 := ⟨ "slices.partitionOrdered[string]", by decide, Tryz.func212.trans (congrArg some (by kernel_rfl))⟩
  f31 := Tryz.func251.trans (congrArg some (by kernel_rfl))
  f32 := Tryz.func252.trans (congrArg some (by kernel_rfl))
  f36 := ⟨ "slices.siftDownOrdered[string]", by decide, Tryz.func250.trans (congrArg some (by kernel_rfl))⟩
  f37 := ⟨ "slices.medianAdjacentOrdered[string]", by decide, Tryz.func253.trans (congrArg some (by kernel_rfl))⟩
  f38 := ⟨ "slices.medianOrdered[string]", by decide, Tryz.func254.trans (congrArg some (by kernel_rfl))⟩
  f39 := ⟨ "cmp.isNaN[string]", by decide, Tryz.func255.trans (congrArg some (by kernel_rfl))⟩
  f41 := ⟨ "slices.order2Ordered[string]", by decide, Tryz.func287.trans (congrArg some (by kernel_rfl))⟩
  t0 := Tryz.underlying0
  a0 := Tryz.isAgg0
  z0 := Tryz.sizeOf0
  v0 := Tryz.zeroValue0
  t3 := Tryz.underlying3
  a3 := Tryz.isAgg3
  z3 := Tryz.sizeOf3
  v3 := Tryz.zeroValue3
  t4 := Tryz.underlying4
  a4 := Tryz.isAgg4
  z4 := Tryz.sizeOf4
  v4 := Tryz.zeroValue4
  t5 := Tryz.underlying5
  a5 := Tryz.isAgg5
  z5 := Tryz.sizeOf5
  v5 := Tryz.zeroValue5
  t9 := Tryz.underlying9
  a9 := Tryz.isAgg9
  z9 := Tryz.sizeOf9
  v9 := Tryz.zeroValue9
  t26 := Tryz.underlying56
  a26 := Tryz.isAgg56
  z26 := Tryz.sizeOf56
  v26 := Tryz.zeroValue56
  t27 := Tryz.underlying56
  a27 := Tryz.isAgg56
  z27 := Tryz.sizeOf56
  v27 := Tryz.zeroValue56
  t29 := Tryz.underlying9
  a29 := Tryz.isAgg9
  z29 := Tryz.sizeOf9
  v29 := Tryz.zeroValue9
  t32 := Tryz.underlying225
  a32 := Tryz.isAgg225
  z32 := Tryz.sizeOf225
  v32 := Tryz.zeroValue225
  t35 := Tryz.underlying280
  a35 := Tryz.isAgg280
  z35 := Tryz.sizeOf280
  v35 := Tryz.zeroValue280
  t36 := Tryz.underlying281
  a36 := Tryz.isAgg281
  z36 := Tryz.sizeOf281
  v36 := Tryz.zeroValue281
  t41 := Tryz.underlying286
  a41 := Tryz.isAgg286
  z41 := Tryz.sizeOf286
  v41 := Tryz.zeroValue286
  t44 := Tryz.underlying95
  a44 := Tryz.isAgg95
  z44 := Tryz.sizeOf95
  v44 := Tryz.zeroValue95
  t46 := Tryz.underlying190
  a46 := Tryz.isAgg190
  z46 := Tryz.sizeOf190
  v46 := Tryz.zeroValue190
  t53 := Tryz.underlying328
  a53 := Tryz.isAgg328
  z53 := Tryz.sizeOf328
  v53 := Tryz.zeroValue328
  t57 := Tryz.underlying332
  a57 := Tryz.isAgg332
  z57 := Tryz.sizeOf332
  v57 := Tryz.zeroValue332
  t63 := Tryz.underlying352
  a63 := Tryz.isAgg352
  z63 := Tryz.sizeOf352
  v63 := Tryz.zeroValue352
  t64 := Tryz.underlying353
  a64 := Tryz.isAgg353
  z64 := Tryz.sizeOf353
  v64 := Tryz.zeroValue353
def renS : Go.Shelf.Ren := ⟨fun | 6 => 64 | 8 => 113 | 9 => 114 | 11 => 160 | 13 => 162 | 12 => 161 | 23 => 213 | 24 => 214 | 14 => 204 | 15 => 205 | 16 => 206 | 17 => 207 | 18 => 208 | 19 => 209 | 20 => 210 | 21 => 211 | 22 => 212 | 25 => 250 | 26 => 251 | 27 => 252 | 28 => 253 | 29 => 254 | 30 => 255 | 31 => 287 | n => n, fun | 26 => 9 | 28 => 126 | 24 => 56 | 0 => 0 | 3 => 3 | 37 => 225 | 48 => 95 | 50 => 190 | 4 => 4 | 40 => 281 | 39 => 280 | 45 => 286 | 5 => 5 | 9 => 9 | 51 => 328 | 55 => 332 | 57 => 352 | 58 => 353 | 33 => 103 | n => n, fun | n => n⟩
theorem layS : Go.Proofs.SlLaysZ.n6 Tryz.prog renS where
  mixed := by kernel_rfl
  f6 := ⟨ "slices.Sorted[string]", by decide, Tryz.func64.trans (congrArg some (by kernel_rfl))⟩
  f8 := ⟨ "slices.Collect[string]", by decide, Tryz.func113.trans (congrArg some (by kernel_rfl))⟩
  f11 := ⟨ "slices.AppendSeq[[]string,string]", by decide, Tryz.func160.trans (congrArg some (by kernel_rfl))⟩
  t0 := Tryz.underlying0
  a0 := Tryz.isAgg0
  z0 := Tryz.sizeOf0
  v0 := Tryz.zeroValue0
  t24 := Tryz.underlying56
  a24 := Tryz.isAgg56
  z24 := Tryz.sizeOf56
  v24 := Tryz.zeroValue56
  t26 := Tryz.underlying9
  a26 := Tryz.isAgg9
  z26 := Tryz.sizeOf9
  v26 := Tryz.zeroValue9
  t28 := Tryz.underlying126
  a28 := Tryz.isAgg126
  z28 := Tryz.sizeOf126
  v28 := Tryz.zeroValue126
  i26 := by kernel_rfl
def renKC : Go.Shelf.Ren := ⟨fun | 10 => 115 | n => n, fun | 33 => 103 | 23 => 128 | 0 => 0 | 4 => 4 | 26 => 9 | 3 => 130 | n => n, fun | n => n⟩
theorem layKC : Go.Proofs.SlLaysZ.n10 Tryz.prog renKC where
  mixed := by kernel_rfl
  f10 := ⟨ "maps.Keys[map[string]warehouse/store.change,string,warehouse/store.change]$1", by decide, Tryz.func115.trans (congrArg some (by kernel_rfl))⟩
  t0 := Tryz.underlying0
  a0 := Tryz.isAgg0
  z0 := Tryz.sizeOf0
  v0 := Tryz.zeroValue0
  t4 := Tryz.underlying4
  a4 := Tryz.isAgg4
  z4 := Tryz.sizeOf4
  v4 := Tryz.zeroValue4
  t23 := Tryz.underlying128
  a23 := Tryz.isAgg128
  z23 := Tryz.sizeOf128
  v23 := Tryz.zeroValue128
  t26 := Tryz.underlying9
  a26 := Tryz.isAgg9
  z26 := Tryz.sizeOf9
  v26 := Tryz.zeroValue9
  t33 := Tryz.underlying103
  a33 := Tryz.isAgg103
  z33 := Tryz.sizeOf103
  v33 := Tryz.zeroValue103
theorem skC : SKeys Tryz.prog 64 115 := skeys_of nodraw layKC layS layM rfl (enters_of Tryz.func114 (by kernel_rfl) rfl) (enters_of Tryz.func115 (by kernel_rfl) rfl) (enters_of Tryz.func64 (by kernel_rfl) rfl)
def renKB : Go.Shelf.Ren := ⟨fun | 10 => 157 | n => n, fun | 33 => 103 | 23 => 108 | 0 => 0 | 4 => 4 | 26 => 9 | 3 => 22 | n => n, fun | n => n⟩
theorem layKB : Go.Proofs.SlLaysZ.n10 Tryz.prog renKB where
  mixed := by kernel_rfl
  f10 := ⟨ "maps.Keys[map[string][]byte,string,[]byte]$1", by decide, Tryz.func157.trans (congrArg some (by kernel_rfl))⟩
  t0 := Tryz.underlying0
  a0 := Tryz.isAgg0
  z0 := Tryz.sizeOf0
  v0 := Tryz.zeroValue0
  t4 := Tryz.underlying4
  a4 := Tryz.isAgg4
  z4 := Tryz.sizeOf4
  v4 := Tryz.zeroValue4
  t23 := Tryz.underlying108
  a23 := Tryz.isAgg108
  z23 := Tryz.sizeOf108
  v23 := Tryz.zeroValue108
  t26 := Tryz.underlying9
  a26 := Tryz.isAgg9
  z26 := Tryz.sizeOf9
  v26 := Tryz.zeroValue9
  t33 := Tryz.underlying103
  a33 := Tryz.isAgg103
  z33 := Tryz.sizeOf103
  v33 := Tryz.zeroValue103
theorem skB : SKeys Tryz.prog 64 157 := skeys_of nodraw layKB layS layM rfl (enters_of Tryz.func114 (by kernel_rfl) rfl) (enters_of Tryz.func157 (by kernel_rfl) rfl) (enters_of Tryz.func64 (by kernel_rfl) rfl)

theorem lifted (os : Os) (started : os.Started) (H : Type) (enc : TypeId × Value → H) :
    ReturnsInHanded {} Tryz.checked os 5 .any (Rows.storeRestartsSpec.pre6 enc Tryz.prog Tryz.f5 Rows.storeRestartsRow.domain false) (Rows.storeRestartsSpec.post enc Tryz.prog Tryz.f5 false true false false) := by
  refine lifted_of_law (C := Tryz.checked) (n := 7) (tb := 4) (shs := [(false, [.slice [.int .i64]]), (false, [.int .i64])]) own started (by kernel_rfl) Tryz.func5
    (ChangeSpec.witness6 (enc := enc) (C := Tryz.checked) false ⟨#[], #[.slice none 0 0, .int .i64 0], []⟩ 8 (by kernel_rfl) (by kernel_rfl) (by kernel_rfl) (by kernel_rfl))
    laidOut (by kernel_rfl) (fun ds hd => ?_) rfl (by kernel_rfl) Tryz.underlying4 (by kernel_rfl) i_z1b.has ?_
  · have hd : ds.length = 2 := hd.trans (by kernel_rfl)
    obtain ⟨d0, d1, rfl⟩ : ∃ d0 d1, ds = [d0, d1] := by
      match ds, hd with
      | [d0, d1], _ => exact ⟨d0, d1, rfl⟩
    rfl
  · intro xs h
    obtain ⟨y0, xs, rfl, p0, h⟩ := argsOk_cons h
    obtain ⟨y1, xs, rfl, p1, h⟩ := argsOk_cons h
    cases argsOk_nil h
    obtain ⟨x0, rfl, h0a, h0b⟩ := argOk_ints p0
    obtain ⟨x1, rfl, h1a⟩ := argOk_int p1
    exact law_StoreRestarts i_z1b mcl skC (Tryz.jread nodraw) (Tryz.jread nodraw) mcl skC skB mcl skC (Tryz.jread nodraw) (Tryz.jread nodraw) mcl skC skB skC skC x0 x1

theorem over : Rows.storeRestartsRow.holds Tryz.pinned (OpenSpec.ofChange Rows.storeRestartsSpec) :=
  OpenClaim.holds_of_wide 5 Tryz.f5 rfl rfl rfl rfl rfl rfl rfl ⟨rfl, rfl, rfl, rfl, rfl⟩ rfl rfl rfl rfl rfl (by kernel_rfl) Tryz.func5 (by kernel_rfl)
    (of_decide_eq_true (by kernel_rfl)) (by unfold Func.isWrapper; first | (rw [if_pos (by decide +kernel)]; kernel_rfl) | (rw [if_neg (by decide +kernel)]; exact ⟨rfl, rfl⟩))
    (fun os started H enc _ => lifted os started H enc)

theorem proved : Rows.StoreRestartsSaid := over
#print axioms proved
end Go.Proofs.YtbjodpkinpnebaaGreat.storeRestarts
