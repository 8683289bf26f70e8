/-
  The law HistoryTravels holds for every input.
  No condition.
-/
import Derived.Test.YtdffiibjghcobaaGreatRows
import Derived.Test.YtdffiibjghcobaaGreatZ8
import Derived.KernelRfl
import Derived.ProofKit
import Derived.WalkKit
namespace Go.Proofs.YtdffiibjghcobaaGreat.historyTravels
open Go.AW Go.ChangeShapes Go.WideShapes Go.ChangeAt Go.RowKit
set_option linter.unusedVariables false
set_option maxRecDepth 100000

instance theDraws : Draws := ⟨False⟩
theorem nodraw : ¬ Draws.up := fun h => h
theorem own : ownKnob Tryz.prog.godebug = none := by kernel_rfl
theorem laidOut : laidOutB Tryz.prog = true := by kernel_rfl

noncomputable def i_z2a : F_z2a Tryz.prog := ⟨25, ⟨Tryz.f25, Tryz.f25.body.getD .skip, Tryz.func25, by kernel_rfl, by kernel_rfl, by kernel_rfl, by kernel_rfl, by kernel_rfl⟩⟩
noncomputable def i_z17 : F_z17 Tryz.prog := ⟨91, ⟨Tryz.f91, Tryz.f91.body.getD .skip, Tryz.func91, by kernel_rfl, by kernel_rfl, by kernel_rfl, by kernel_rfl, by kernel_rfl⟩⟩
noncomputable def i_z16 : F_z16 Tryz.prog := ⟨93, ⟨Tryz.f93, Tryz.f93.body.getD .skip, Tryz.func93, by kernel_rfl, by kernel_rfl, by kernel_rfl, by kernel_rfl, by kernel_rfl⟩⟩
noncomputable def i_z1j : F_z1j Tryz.prog := ⟨92, ⟨Tryz.f92, Tryz.f92.body.getD .skip, Tryz.func92, by kernel_rfl, by kernel_rfl, by kernel_rfl, by kernel_rfl, by kernel_rfl⟩⟩
noncomputable def i_z15 : F_z15 Tryz.prog := ⟨65, i_z16, i_z1j, ⟨Tryz.f65, Tryz.f65.body.getD .skip, Tryz.func65, by kernel_rfl, by kernel_rfl, by kernel_rfl, by kernel_rfl, by kernel_rfl⟩⟩
noncomputable def i_z1a : F_z1a Tryz.prog := ⟨64, i_z17, i_z15, ⟨Tryz.f64, Tryz.f64.body.getD .skip, Tryz.func64, by kernel_rfl, by kernel_rfl, by kernel_rfl, by kernel_rfl, by kernel_rfl⟩⟩
noncomputable def i_z0i : F_z0i Tryz.prog := ⟨67, i_z15, ⟨Tryz.f67, Tryz.f67.body.getD .skip, Tryz.func67, by kernel_rfl, by kernel_rfl, by kernel_rfl, by kernel_rfl, by kernel_rfl⟩⟩
noncomputable def i_z1k : F_z1k Tryz.prog := ⟨94, ⟨Tryz.f94, Tryz.f94.body.getD .skip, Tryz.func94, by kernel_rfl, by kernel_rfl, by kernel_rfl, by kernel_rfl, by kernel_rfl⟩⟩
noncomputable def i_z1h : F_z1h Tryz.prog := ⟨66, i_z1k, ⟨Tryz.f66, Tryz.f66.body.getD .skip, Tryz.func66, by kernel_rfl, by kernel_rfl, by kernel_rfl, by kernel_rfl, by kernel_rfl⟩⟩
noncomputable def i_z1c : F_z1c Tryz.prog := ⟨68, ⟨Tryz.f68, Tryz.f68.body.getD .skip, Tryz.func68, by kernel_rfl, by kernel_rfl, by kernel_rfl, by kernel_rfl, by kernel_rfl⟩⟩
noncomputable def i_z0h : F_z0h Tryz.prog := ⟨31, i_z1a, i_z15, i_z0i, i_z1h, i_z1c, ⟨Tryz.f31, Tryz.f31.body.getD .skip, Tryz.func31, by kernel_rfl, by kernel_rfl, by kernel_rfl, by kernel_rfl, by kernel_rfl⟩⟩
noncomputable def i_z1l : F_z1l Tryz.prog := ⟨124, ⟨Tryz.f124, Tryz.f124.body.getD .skip, Tryz.func124, by kernel_rfl, by kernel_rfl, by kernel_rfl, by kernel_rfl, by kernel_rfl⟩⟩
noncomputable def i_z1i : F_z1i Tryz.prog := ⟨95, i_z1l, ⟨Tryz.f95, Tryz.f95.body.getD .skip, Tryz.func95, by kernel_rfl, by kernel_rfl, by kernel_rfl, by kernel_rfl, by kernel_rfl⟩⟩
noncomputable def i_z24 : F_z24 Tryz.prog := ⟨96, ⟨Tryz.f96, Tryz.f96.body.getD .skip, Tryz.func96, by kernel_rfl, by kernel_rfl, by kernel_rfl, by kernel_rfl, by kernel_rfl⟩⟩
noncomputable def i_z14 : F_z14 Tryz.prog := ⟨70, i_z24, ⟨Tryz.f70, Tryz.f70.body.getD .skip, Tryz.func70, by kernel_rfl, by kernel_rfl, by kernel_rfl, by kernel_rfl, by kernel_rfl⟩⟩
noncomputable def i_z45 : F_z45 Tryz.prog := ⟨69, i_z1i, i_z14, ⟨Tryz.f69, Tryz.f69.body.getD .skip, Tryz.func69, by kernel_rfl, by kernel_rfl, by kernel_rfl, by kernel_rfl, by kernel_rfl⟩⟩
noncomputable def i_z43 : F_z43 Tryz.prog := ⟨32, i_z45, i_z14, ⟨Tryz.f32, Tryz.f32.body.getD .skip, Tryz.func32, by kernel_rfl, by kernel_rfl, by kernel_rfl, by kernel_rfl, by kernel_rfl⟩⟩
noncomputable def i_z1f : F_z1f Tryz.prog := ⟨71, ⟨Tryz.f71, Tryz.f71.body.getD .skip, Tryz.func71, by kernel_rfl, by kernel_rfl, by kernel_rfl, by kernel_rfl, by kernel_rfl⟩⟩
noncomputable def i_z0o : F_z0o Tryz.prog := ⟨36, i_z15, ⟨Tryz.f36, Tryz.f36.body.getD .skip, Tryz.func36, by kernel_rfl, by kernel_rfl, by kernel_rfl, by kernel_rfl, by kernel_rfl⟩⟩
noncomputable def i_z1g : F_z1g Tryz.prog := ⟨74, ⟨Tryz.f74, Tryz.f74.body.getD .skip, Tryz.func74, by kernel_rfl, by kernel_rfl, by kernel_rfl, by kernel_rfl, by kernel_rfl⟩⟩
noncomputable def i_z0d : F_z0d Tryz.prog := ⟨83, ⟨Tryz.f83, Tryz.f83.body.getD .skip, Tryz.func83, by kernel_rfl, by kernel_rfl, by kernel_rfl, by kernel_rfl, by kernel_rfl⟩⟩
noncomputable def i_z0a : F_z0a Tryz.prog := ⟨51, i_z0d, ⟨Tryz.f51, Tryz.f51.body.getD .skip, Tryz.func51, by kernel_rfl, by kernel_rfl, by kernel_rfl, by kernel_rfl, by kernel_rfl⟩⟩
noncomputable def i_z0e : F_z0e Tryz.prog := ⟨126, ⟨Tryz.f126, Tryz.f126.body.getD .skip, Tryz.func126, by kernel_rfl, by kernel_rfl, by kernel_rfl, by kernel_rfl, by kernel_rfl⟩⟩
noncomputable def i_z0b : F_z0b Tryz.prog := ⟨98, i_z0e, ⟨Tryz.f98, Tryz.f98.body.getD .skip, Tryz.func98, by kernel_rfl, by kernel_rfl, by kernel_rfl, by kernel_rfl, by kernel_rfl⟩⟩
noncomputable def i_z0c : F_z0c Tryz.prog := ⟨49, ⟨Tryz.f49, Tryz.f49.body.getD .skip, Tryz.func49, by kernel_rfl, by kernel_rfl, by kernel_rfl, by kernel_rfl, by kernel_rfl⟩⟩
noncomputable def i_z21 : F_z21 Tryz.prog := ⟨75, i_z0a, i_z0b, i_z0c, ⟨Tryz.f75, Tryz.f75.body.getD .skip, Tryz.func75, by kernel_rfl, by kernel_rfl, by kernel_rfl, by kernel_rfl, by kernel_rfl⟩⟩
noncomputable def i_z22 : F_z22 Tryz.prog := ⟨35, i_z1g, i_z21, ⟨Tryz.f35, Tryz.f35.body.getD .skip, Tryz.func35, by kernel_rfl, by kernel_rfl, by kernel_rfl, by kernel_rfl, by kernel_rfl⟩⟩
noncomputable def i_z44 : F_z44 Tryz.prog := ⟨37, i_z15, i_z43, ⟨Tryz.f37, Tryz.f37.body.getD .skip, Tryz.func37, by kernel_rfl, by kernel_rfl, by kernel_rfl, by kernel_rfl, by kernel_rfl⟩⟩
noncomputable def i_z0r : F_z0r Tryz.prog := ⟨73, i_z0o, i_z22, i_z44, i_z0a, i_z0c, ⟨Tryz.f73, Tryz.f73.body.getD .skip, Tryz.func73, by kernel_rfl, by kernel_rfl, by kernel_rfl, by kernel_rfl, by kernel_rfl⟩⟩
noncomputable def i_z1q : F_z1q Tryz.prog := ⟨110, ⟨Tryz.f110, Tryz.f110.body.getD .skip, Tryz.func110, by kernel_rfl, by kernel_rfl, by kernel_rfl, by kernel_rfl, by kernel_rfl⟩⟩
noncomputable def i_z1v : F_z1v Tryz.prog := ⟨159, ⟨Tryz.f159, Tryz.f159.body.getD .skip, Tryz.func159, by kernel_rfl, by kernel_rfl, by kernel_rfl, by kernel_rfl, by kernel_rfl⟩⟩
noncomputable def i_z1t : F_z1t Tryz.prog := ⟨146, i_z1v, ⟨Tryz.f146, Tryz.f146.body.getD .skip, Tryz.func146, by kernel_rfl, by kernel_rfl, by kernel_rfl, by kernel_rfl, by kernel_rfl⟩⟩
noncomputable def i_z1w : F_z1w Tryz.prog := ⟨125, i_z1t, ⟨Tryz.f125, Tryz.f125.body.getD .skip, Tryz.func125, by kernel_rfl, by kernel_rfl, by kernel_rfl, by kernel_rfl, by kernel_rfl⟩⟩
noncomputable def i_z1u : F_z1u Tryz.prog := ⟨97, i_z1q, i_z1w, ⟨Tryz.f97, Tryz.f97.body.getD .skip, Tryz.func97, by kernel_rfl, by kernel_rfl, by kernel_rfl, by kernel_rfl, by kernel_rfl⟩⟩
noncomputable def i_z1o : F_z1o Tryz.prog := ⟨72, i_z1u, ⟨Tryz.f72, Tryz.f72.body.getD .skip, Tryz.func72, by kernel_rfl, by kernel_rfl, by kernel_rfl, by kernel_rfl, by kernel_rfl⟩⟩
noncomputable def i_z0q : F_z0q Tryz.prog := ⟨34, i_z1f, i_z0r, i_z1o, ⟨Tryz.f34, Tryz.f34.body.getD .skip, Tryz.func34, by kernel_rfl, by kernel_rfl, by kernel_rfl, by kernel_rfl, by kernel_rfl⟩⟩
noncomputable def i_z0s : F_z0s Tryz.prog := ⟨33, i_z0o, i_z22, i_z44, ⟨Tryz.f33, Tryz.f33.body.getD .skip, Tryz.func33, by kernel_rfl, by kernel_rfl, by kernel_rfl, by kernel_rfl, by kernel_rfl⟩⟩
noncomputable def i_z1e : F_z1e Tryz.prog := ⟨38, ⟨Tryz.f38, Tryz.f38.body.getD .skip, Tryz.func38, by kernel_rfl, by kernel_rfl, by kernel_rfl, by kernel_rfl, by kernel_rfl⟩⟩

noncomputable def i_z13 : F_z13 Tryz.prog := ⟨108, ⟨Tryz.f108, Tryz.f108.body.getD .skip, Tryz.func108, by kernel_rfl, by kernel_rfl, by kernel_rfl, by kernel_rfl, by kernel_rfl⟩⟩
noncomputable def i_z12 : F_z12 Tryz.prog := ⟨77, ⟨107⟩, i_z13, ⟨Tryz.f77, Tryz.f77.body.getD .skip, Tryz.func77, by kernel_rfl, by kernel_rfl, by kernel_rfl, by kernel_rfl, by kernel_rfl⟩⟩
noncomputable def i_z1p : F_z1p Tryz.prog := ⟨99, ⟨Tryz.f99, Tryz.f99.body.getD .skip, Tryz.func99, by kernel_rfl, by kernel_rfl, by kernel_rfl, by kernel_rfl, by kernel_rfl⟩⟩

noncomputable def i_z1r : F_z1r Tryz.prog := ⟨76, i_z1p, ⟨100⟩, ⟨101⟩, ⟨102⟩, ⟨103⟩, ⟨104⟩, ⟨105⟩, ⟨106⟩, ⟨Tryz.f76, Tryz.f76.body.getD .skip, Tryz.func76, by kernel_rfl, by kernel_rfl, by kernel_rfl, by kernel_rfl, by kernel_rfl⟩⟩
noncomputable def i_z1m : F_z1m Tryz.prog := ⟨39, i_z12, i_z1r, ⟨Tryz.f39, Tryz.f39.body.getD .skip, Tryz.func39, by kernel_rfl, by kernel_rfl, by kernel_rfl, by kernel_rfl, by kernel_rfl⟩⟩
noncomputable def i_z0m : F_z0m Tryz.prog := ⟨40, i_z22, ⟨Tryz.f40, Tryz.f40.body.getD .skip, Tryz.func40, by kernel_rfl, by kernel_rfl, by kernel_rfl, by kernel_rfl, by kernel_rfl⟩⟩
noncomputable def i_z0l : F_z0l Tryz.prog := ⟨14, i_z0h, i_z43, i_z0q, i_z0s, i_z0o, i_z22, i_z44, i_z1e, i_z1m, ⟨40⟩, ⟨Tryz.f14, Tryz.f14.body.getD .skip, Tryz.func14, by kernel_rfl, by kernel_rfl, by kernel_rfl, by kernel_rfl, by kernel_rfl⟩⟩
noncomputable def i_z03 : F_z03 Tryz.prog := ⟨118, i_z24, ⟨Tryz.f118, Tryz.f118.body.getD .skip, Tryz.func118, by kernel_rfl, by kernel_rfl, by kernel_rfl, by kernel_rfl, by kernel_rfl⟩⟩
noncomputable def i_z01 : F_z01 Tryz.prog := ⟨84, i_z03, i_z22, ⟨Tryz.f84, Tryz.f84.body.getD .skip, Tryz.func84, by kernel_rfl, by kernel_rfl, by kernel_rfl, by kernel_rfl, by kernel_rfl⟩⟩
noncomputable def i_z0n : F_z0n Tryz.prog := ⟨52, i_z0h, i_z01, i_z14, ⟨Tryz.f52, Tryz.f52.body.getD .skip, Tryz.func52, by kernel_rfl, by kernel_rfl, by kernel_rfl, by kernel_rfl, by kernel_rfl⟩⟩
noncomputable def i_z0g : F_z0g Tryz.prog := ⟨56, ⟨Tryz.f56, Tryz.f56.body.getD .skip, Tryz.func56, by kernel_rfl, by kernel_rfl, by kernel_rfl, by kernel_rfl, by kernel_rfl⟩⟩
noncomputable def i_z1d : F_z1d Tryz.prog := ⟨135, ⟨Tryz.f135, Tryz.f135.body.getD .skip, Tryz.func135, by kernel_rfl, by kernel_rfl, by kernel_rfl, by kernel_rfl, by kernel_rfl⟩⟩
noncomputable def i_z06 : F_z06 Tryz.prog := ⟨136, i_z22, ⟨Tryz.f136, Tryz.f136.body.getD .skip, Tryz.func136, by kernel_rfl, by kernel_rfl, by kernel_rfl, by kernel_rfl, by kernel_rfl⟩⟩
noncomputable def i_z04 : F_z04 Tryz.prog := ⟨137, i_z1e, ⟨Tryz.f137, Tryz.f137.body.getD .skip, Tryz.func137, by kernel_rfl, by kernel_rfl, by kernel_rfl, by kernel_rfl, by kernel_rfl⟩⟩
noncomputable def i_z02 : F_z02 Tryz.prog := ⟨138, ⟨Tryz.f138, Tryz.f138.body.getD .skip, Tryz.func138, by kernel_rfl, by kernel_rfl, by kernel_rfl, by kernel_rfl, by kernel_rfl⟩⟩
noncomputable def i_z05 : F_z05 Tryz.prog := ⟨119, i_z1d, i_z1m, ⟨136⟩, i_z22, i_z04, i_z02, ⟨Tryz.f119, Tryz.f119.body.getD .skip, Tryz.func119, by kernel_rfl, by kernel_rfl, by kernel_rfl, by kernel_rfl, by kernel_rfl⟩⟩
noncomputable def i_z00 : F_z00 Tryz.prog := ⟨85, i_z03, i_z05, ⟨Tryz.f85, Tryz.f85.body.getD .skip, Tryz.func85, by kernel_rfl, by kernel_rfl, by kernel_rfl, by kernel_rfl, by kernel_rfl⟩⟩
noncomputable def i_z0p : F_z0p Tryz.prog := ⟨53, i_z00, ⟨Tryz.f53, Tryz.f53.body.getD .skip, Tryz.func53, by kernel_rfl, by kernel_rfl, by kernel_rfl, by kernel_rfl, by kernel_rfl⟩⟩
noncomputable def i_z0f : F_z0f Tryz.prog := ⟨23, i_z0n, i_z0g, i_z0p, ⟨Tryz.f23, Tryz.f23.body.getD .skip, Tryz.func23, by kernel_rfl, by kernel_rfl, by kernel_rfl, by kernel_rfl, by kernel_rfl⟩⟩
noncomputable def i_z0k : F_z0k Tryz.prog := ⟨54, ⟨Tryz.f54, Tryz.f54.body.getD .skip, Tryz.func54, by kernel_rfl, by kernel_rfl, by kernel_rfl, by kernel_rfl, by kernel_rfl⟩⟩
noncomputable def i_z0j : F_z0j Tryz.prog := ⟨21, i_z0n, i_z0p, i_z0k, ⟨Tryz.f21, Tryz.f21.body.getD .skip, Tryz.func21, by kernel_rfl, by kernel_rfl, by kernel_rfl, by kernel_rfl, by kernel_rfl⟩⟩
noncomputable def i_z27 : F_z27 Tryz.prog := ⟨8, i_z2a, i_z0l, i_z0f, i_z0j, ⟨Tryz.f8, Tryz.f8.body.getD .skip, Tryz.func8, by kernel_rfl, by kernel_rfl, by kernel_rfl, by kernel_rfl, by kernel_rfl⟩⟩
noncomputable def i_z3y : F_z3y Tryz.prog := ⟨11, ⟨Tryz.f11, Tryz.f11.body.getD .skip, Tryz.func11, by kernel_rfl, by kernel_rfl, by kernel_rfl, by kernel_rfl, by kernel_rfl⟩⟩
noncomputable def i_z3q : F_z3q Tryz.prog := ⟨87, i_z3y, ⟨Tryz.f87, Tryz.f87.body.getD .skip, Tryz.func87, by kernel_rfl, by kernel_rfl, by kernel_rfl, by kernel_rfl, by kernel_rfl⟩⟩
noncomputable def i_z41 : F_z41 Tryz.prog := ⟨58, i_z3q, i_z3y, ⟨Tryz.f58, Tryz.f58.body.getD .skip, Tryz.func58, by kernel_rfl, by kernel_rfl, by kernel_rfl, by kernel_rfl, by kernel_rfl⟩⟩
noncomputable def i_z29 : F_z29 Tryz.prog := ⟨26, i_z41, ⟨Tryz.f26, Tryz.f26.body.getD .skip, Tryz.func26, by kernel_rfl, by kernel_rfl, by kernel_rfl, by kernel_rfl, by kernel_rfl⟩⟩
noncomputable def i_z3x : F_z3x Tryz.prog := ⟨61, i_z3y, ⟨Tryz.f61, Tryz.f61.body.getD .skip, Tryz.func61, by kernel_rfl, by kernel_rfl, by kernel_rfl, by kernel_rfl, by kernel_rfl⟩⟩
noncomputable def i_z3w : F_z3w Tryz.prog := ⟨60, i_z3y, ⟨Tryz.f60, Tryz.f60.body.getD .skip, Tryz.func60, by kernel_rfl, by kernel_rfl, by kernel_rfl, by kernel_rfl, by kernel_rfl⟩⟩
noncomputable def i_z3u : F_z3u Tryz.prog := ⟨63, ⟨Tryz.f63, Tryz.f63.body.getD .skip, Tryz.func63, by kernel_rfl, by kernel_rfl, by kernel_rfl, by kernel_rfl, by kernel_rfl⟩⟩
noncomputable def i_z42 : F_z42 Tryz.prog := ⟨30, i_z3x, i_z3u, ⟨Tryz.f30, Tryz.f30.body.getD .skip, Tryz.func30, by kernel_rfl, by kernel_rfl, by kernel_rfl, by kernel_rfl, by kernel_rfl⟩⟩
noncomputable def i_z40 : F_z40 Tryz.prog := ⟨12, i_z42, ⟨Tryz.f12, Tryz.f12.body.getD .skip, Tryz.func12, by kernel_rfl, by kernel_rfl, by kernel_rfl, by kernel_rfl, by kernel_rfl⟩⟩
noncomputable def i_z2j : F_z2j Tryz.prog := ⟨149, ⟨Tryz.f149, Tryz.f149.body.getD .skip, Tryz.func149, by kernel_rfl, by kernel_rfl, by kernel_rfl, by kernel_rfl, by kernel_rfl⟩⟩
noncomputable def i_z3r : F_z3r Tryz.prog := ⟨139, i_z2j, ⟨Tryz.f139, Tryz.f139.body.getD .skip, Tryz.func139, by kernel_rfl, by kernel_rfl, by kernel_rfl, by kernel_rfl, by kernel_rfl⟩⟩
noncomputable def i_z3z : F_z3z Tryz.prog := ⟨120, i_z3x, i_z40, i_z3r, ⟨Tryz.f120, Tryz.f120.body.getD .skip, Tryz.func120, by kernel_rfl, by kernel_rfl, by kernel_rfl, by kernel_rfl, by kernel_rfl⟩⟩
noncomputable def i_z3t : F_z3t Tryz.prog := ⟨88, i_z3x, i_z3z, ⟨Tryz.f88, Tryz.f88.body.getD .skip, Tryz.func88, by kernel_rfl, by kernel_rfl, by kernel_rfl, by kernel_rfl, by kernel_rfl⟩⟩
noncomputable def i_z2k : F_z2k Tryz.prog := ⟨150, ⟨Tryz.f150, Tryz.f150.body.getD .skip, Tryz.func150, by kernel_rfl, by kernel_rfl, by kernel_rfl, by kernel_rfl, by kernel_rfl⟩⟩
noncomputable def i_z34 : F_z34 Tryz.prog := ⟨140, i_z2k, ⟨Tryz.f140, Tryz.f140.body.getD .skip, Tryz.func140, by kernel_rfl, by kernel_rfl, by kernel_rfl, by kernel_rfl, by kernel_rfl⟩⟩
noncomputable def i_z3h : F_z3h Tryz.prog := ⟨160, ⟨Tryz.f160, Tryz.f160.body.getD .skip, Tryz.func160, by kernel_rfl, by kernel_rfl, by kernel_rfl, by kernel_rfl, by kernel_rfl⟩⟩
noncomputable def i_z3i : F_z3i Tryz.prog := ⟨161, i_z3h, ⟨Tryz.f161, Tryz.f161.body.getD .skip, Tryz.func161, by kernel_rfl, by kernel_rfl, by kernel_rfl, by kernel_rfl, by kernel_rfl⟩⟩
noncomputable def i_z2e : F_z2e Tryz.prog := ⟨109, ⟨Tryz.f109, Tryz.f109.body.getD .skip, Tryz.func109, by kernel_rfl, by kernel_rfl, by kernel_rfl, by kernel_rfl, by kernel_rfl⟩⟩
noncomputable def i_z2f : F_z2f Tryz.prog := ⟨162, ⟨Tryz.f162, Tryz.f162.body.getD .skip, Tryz.func162, by kernel_rfl, by kernel_rfl, by kernel_rfl, by kernel_rfl, by kernel_rfl⟩⟩
noncomputable def i_z2d : F_z2d Tryz.prog := ⟨153, i_z2e, i_z2f, ⟨Tryz.f153, Tryz.f153.body.getD .skip, Tryz.func153, by kernel_rfl, by kernel_rfl, by kernel_rfl, by kernel_rfl, by kernel_rfl⟩⟩
noncomputable def i_z2q : F_z2q Tryz.prog := ⟨151, i_z3h, i_z3i, i_z2d, ⟨Tryz.f151, Tryz.f151.body.getD .skip, Tryz.func151, by kernel_rfl, by kernel_rfl, by kernel_rfl, by kernel_rfl, by kernel_rfl⟩⟩
noncomputable def i_z2r : F_z2r Tryz.prog := ⟨152, ⟨Tryz.f152, Tryz.f152.body.getD .skip, Tryz.func152, by kernel_rfl, by kernel_rfl, by kernel_rfl, by kernel_rfl, by kernel_rfl⟩⟩
noncomputable def i_z2l : F_z2l Tryz.prog := ⟨154, ⟨Tryz.f154, Tryz.f154.body.getD .skip, Tryz.func154, by kernel_rfl, by kernel_rfl, by kernel_rfl, by kernel_rfl, by kernel_rfl⟩⟩
noncomputable def i_z2n : F_z2n Tryz.prog := ⟨141, i_z2q, i_z2r, i_z2d, i_z2l, ⟨Tryz.f141, Tryz.f141.body.getD .skip, Tryz.func141, by kernel_rfl, by kernel_rfl, by kernel_rfl, by kernel_rfl, by kernel_rfl⟩⟩
noncomputable def i_z2i : F_z2i Tryz.prog := ⟨20, ⟨Tryz.f20, Tryz.f20.body.getD .skip, Tryz.func20, by kernel_rfl, by kernel_rfl, by kernel_rfl, by kernel_rfl, by kernel_rfl⟩⟩
noncomputable def i_z2p : F_z2p Tryz.prog := ⟨155, i_z2i, ⟨Tryz.f155, Tryz.f155.body.getD .skip, Tryz.func155, by kernel_rfl, by kernel_rfl, by kernel_rfl, by kernel_rfl, by kernel_rfl⟩⟩
noncomputable def i_z2o : F_z2o Tryz.prog := ⟨142, i_z2p, ⟨Tryz.f142, Tryz.f142.body.getD .skip, Tryz.func142, by kernel_rfl, by kernel_rfl, by kernel_rfl, by kernel_rfl, by kernel_rfl⟩⟩
noncomputable def i_z2m : F_z2m Tryz.prog := ⟨86, ⟨Tryz.f86, Tryz.f86.body.getD .skip, Tryz.func86, by kernel_rfl, by kernel_rfl, by kernel_rfl, by kernel_rfl, by kernel_rfl⟩⟩
noncomputable def i_z32 : F_z32 Tryz.prog := ⟨57, i_z2m, ⟨Tryz.f57, Tryz.f57.body.getD .skip, Tryz.func57, by kernel_rfl, by kernel_rfl, by kernel_rfl, by kernel_rfl, by kernel_rfl⟩⟩
noncomputable def i_z2z : F_z2z Tryz.prog := ⟨24, i_z32, ⟨Tryz.f24, Tryz.f24.body.getD .skip, Tryz.func24, by kernel_rfl, by kernel_rfl, by kernel_rfl, by kernel_rfl, by kernel_rfl⟩⟩
noncomputable def i_z3f : F_z3f Tryz.prog := ⟨78, i_z2e, ⟨Tryz.f78, Tryz.f78.body.getD .skip, Tryz.func78, by kernel_rfl, by kernel_rfl, by kernel_rfl, by kernel_rfl, by kernel_rfl⟩⟩
noncomputable def i_z2x : F_z2x Tryz.prog := ⟨79, ⟨Tryz.f79, Tryz.f79.body.getD .skip, Tryz.func79, by kernel_rfl, by kernel_rfl, by kernel_rfl, by kernel_rfl, by kernel_rfl⟩⟩
noncomputable def i_z2s : F_z2s Tryz.prog := ⟨42, i_z3f, i_z2x, ⟨Tryz.f42, Tryz.f42.body.getD .skip, Tryz.func42, by kernel_rfl, by kernel_rfl, by kernel_rfl, by kernel_rfl, by kernel_rfl⟩⟩
noncomputable def i_z33 : F_z33 Tryz.prog := ⟨29, i_z2s, ⟨Tryz.f29, Tryz.f29.body.getD .skip, Tryz.func29, by kernel_rfl, by kernel_rfl, by kernel_rfl, by kernel_rfl, by kernel_rfl⟩⟩
noncomputable def i_z3g : F_z3g Tryz.prog := ⟨41, ⟨Tryz.f41, Tryz.f41.body.getD .skip, Tryz.func41, by kernel_rfl, by kernel_rfl, by kernel_rfl, by kernel_rfl, by kernel_rfl⟩⟩
noncomputable def i_z2w : F_z2w Tryz.prog := ⟨16, i_z3g, i_z2s, ⟨Tryz.f16, Tryz.f16.body.getD .skip, Tryz.func16, by kernel_rfl, by kernel_rfl, by kernel_rfl, by kernel_rfl, by kernel_rfl⟩⟩
noncomputable def i_z30 : F_z30 Tryz.prog := ⟨144, i_z33, i_z2w, ⟨Tryz.f144, Tryz.f144.body.getD .skip, Tryz.func144, by kernel_rfl, by kernel_rfl, by kernel_rfl, by kernel_rfl, by kernel_rfl⟩⟩
noncomputable def i_z2u : F_z2u Tryz.prog := ⟨143, ⟨Tryz.f143, Tryz.f143.body.getD .skip, Tryz.func143, by kernel_rfl, by kernel_rfl, by kernel_rfl, by kernel_rfl, by kernel_rfl⟩⟩
noncomputable def i_z3e : F_z3e Tryz.prog := ⟨163, ⟨Tryz.f163, Tryz.f163.body.getD .skip, Tryz.func163, by kernel_rfl, by kernel_rfl, by kernel_rfl, by kernel_rfl, by kernel_rfl⟩⟩
noncomputable def i_z38 : F_z38 Tryz.prog := ⟨156, i_z3e, ⟨Tryz.f156, Tryz.f156.body.getD .skip, Tryz.func156, by kernel_rfl, by kernel_rfl, by kernel_rfl, by kernel_rfl, by kernel_rfl⟩⟩
noncomputable def i_z39 : F_z39 Tryz.prog := ⟨164, i_z38, ⟨Tryz.f164, Tryz.f164.body.getD .skip, Tryz.func164, by kernel_rfl, by kernel_rfl, by kernel_rfl, by kernel_rfl, by kernel_rfl⟩⟩
noncomputable def i_z3c : F_z3c Tryz.prog := ⟨170, ⟨Tryz.f170, Tryz.f170.body.getD .skip, Tryz.func170, by kernel_rfl, by kernel_rfl, by kernel_rfl, by kernel_rfl, by kernel_rfl⟩⟩
noncomputable def i_z35 : F_z35 Tryz.prog := ⟨169, ⟨Tryz.f169, Tryz.f169.body.getD .skip, Tryz.func169, by kernel_rfl, by kernel_rfl, by kernel_rfl, by kernel_rfl, by kernel_rfl⟩⟩
noncomputable def i_z3b : F_z3b Tryz.prog := ⟨167, i_z3c, i_z35, ⟨Tryz.f167, Tryz.f167.body.getD .skip, Tryz.func167, by kernel_rfl, by kernel_rfl, by kernel_rfl, by kernel_rfl, by kernel_rfl⟩⟩
noncomputable def i_z3a : F_z3a Tryz.prog := ⟨165, i_z3b, ⟨Tryz.f165, Tryz.f165.body.getD .skip, Tryz.func165, by kernel_rfl, by kernel_rfl, by kernel_rfl, by kernel_rfl, by kernel_rfl⟩⟩
noncomputable def i_z36 : F_z36 Tryz.prog := ⟨157, i_z39, i_z3a, ⟨Tryz.f157, Tryz.f157.body.getD .skip, Tryz.func157, by kernel_rfl, by kernel_rfl, by kernel_rfl, by kernel_rfl, by kernel_rfl⟩⟩
noncomputable def i_z3d : F_z3d Tryz.prog := ⟨168, i_z3a, ⟨Tryz.f168, Tryz.f168.body.getD .skip, Tryz.func168, by kernel_rfl, by kernel_rfl, by kernel_rfl, by kernel_rfl, by kernel_rfl⟩⟩
noncomputable def i_z37 : F_z37 Tryz.prog := ⟨166, i_z38, i_z3d, ⟨Tryz.f166, Tryz.f166.body.getD .skip, Tryz.func166, by kernel_rfl, by kernel_rfl, by kernel_rfl, by kernel_rfl, by kernel_rfl⟩⟩
noncomputable def i_z2v : F_z2v Tryz.prog := ⟨158, i_z38, i_z37, ⟨Tryz.f158, Tryz.f158.body.getD .skip, Tryz.func158, by kernel_rfl, by kernel_rfl, by kernel_rfl, by kernel_rfl, by kernel_rfl⟩⟩
noncomputable def i_z2t : F_z2t Tryz.prog := ⟨145, i_z38, i_z2s, i_z2w, i_z36, i_z2v, ⟨Tryz.f145, Tryz.f145.body.getD .skip, Tryz.func145, by kernel_rfl, by kernel_rfl, by kernel_rfl, by kernel_rfl, by kernel_rfl⟩⟩
noncomputable def i_z31 : F_z31 Tryz.prog := ⟨121, i_z34, i_z2n, i_z2o, i_z2z, i_z32, i_z2m, i_z30, i_z2u, i_z2t, ⟨Tryz.f121, Tryz.f121.body.getD .skip, Tryz.func121, by kernel_rfl, by kernel_rfl, by kernel_rfl, by kernel_rfl, by kernel_rfl⟩⟩
noncomputable def i_z2y : F_z2y Tryz.prog := ⟨89, i_z31, ⟨Tryz.f89, Tryz.f89.body.getD .skip, Tryz.func89, by kernel_rfl, by kernel_rfl, by kernel_rfl, by kernel_rfl, by kernel_rfl⟩⟩
noncomputable def i_z3s : F_z3s Tryz.prog := ⟨59, i_z3x, i_z3t, i_z2y, ⟨Tryz.f59, Tryz.f59.body.getD .skip, Tryz.func59, by kernel_rfl, by kernel_rfl, by kernel_rfl, by kernel_rfl, by kernel_rfl⟩⟩
noncomputable def i_z3v : F_z3v Tryz.prog := ⟨27, i_z3x, i_z3w, i_z3s, ⟨Tryz.f27, Tryz.f27.body.getD .skip, Tryz.func27, by kernel_rfl, by kernel_rfl, by kernel_rfl, by kernel_rfl, by kernel_rfl⟩⟩
noncomputable def i_z28 : F_z28 Tryz.prog := ⟨9, i_z29, i_z3v, ⟨Tryz.f9, Tryz.f9.body.getD .skip, Tryz.func9, by kernel_rfl, by kernel_rfl, by kernel_rfl, by kernel_rfl, by kernel_rfl⟩⟩
noncomputable def i_z0y : F_z0y Tryz.prog := ⟨45, i_z1e, ⟨Tryz.f45, Tryz.f45.body.getD .skip, Tryz.func45, by kernel_rfl, by kernel_rfl, by kernel_rfl, by kernel_rfl, by kernel_rfl⟩⟩
noncomputable def i_z0w : F_z0w Tryz.prog := ⟨44, i_z0y, ⟨Tryz.f44, Tryz.f44.body.getD .skip, Tryz.func44, by kernel_rfl, by kernel_rfl, by kernel_rfl, by kernel_rfl, by kernel_rfl⟩⟩
noncomputable def i_z0z : F_z0z Tryz.prog := ⟨80, i_z43, ⟨Tryz.f80, Tryz.f80.body.getD .skip, Tryz.func80, by kernel_rfl, by kernel_rfl, by kernel_rfl, by kernel_rfl, by kernel_rfl⟩⟩
noncomputable def i_z10 : F_z10 Tryz.prog := ⟨43, i_z0z, ⟨Tryz.f43, Tryz.f43.body.getD .skip, Tryz.func43, by kernel_rfl, by kernel_rfl, by kernel_rfl, by kernel_rfl, by kernel_rfl⟩⟩
noncomputable def i_z11 : F_z11 Tryz.prog := ⟨46, i_z15, ⟨Tryz.f46, Tryz.f46.body.getD .skip, Tryz.func46, by kernel_rfl, by kernel_rfl, by kernel_rfl, by kernel_rfl, by kernel_rfl⟩⟩
noncomputable def i_z1b : F_z1b Tryz.prog := ⟨82, ⟨Tryz.f82, Tryz.f82.body.getD .skip, Tryz.func82, by kernel_rfl, by kernel_rfl, by kernel_rfl, by kernel_rfl, by kernel_rfl⟩⟩
noncomputable def i_z19 : F_z19 Tryz.prog := ⟨50, i_z1b, ⟨Tryz.f50, Tryz.f50.body.getD .skip, Tryz.func50, by kernel_rfl, by kernel_rfl, by kernel_rfl, by kernel_rfl, by kernel_rfl⟩⟩
noncomputable def i_z0x : F_z0x Tryz.prog := ⟨48, i_z19, i_z22, i_z44, i_z0a, i_z0c, ⟨Tryz.f48, Tryz.f48.body.getD .skip, Tryz.func48, by kernel_rfl, by kernel_rfl, by kernel_rfl, by kernel_rfl, by kernel_rfl⟩⟩

noncomputable def i_z1s : F_z1s Tryz.prog := ⟨81, i_z1q, ⟨111⟩, ⟨112⟩, ⟨113⟩, ⟨114⟩, ⟨115⟩, ⟨116⟩, ⟨117⟩, ⟨Tryz.f81, Tryz.f81.body.getD .skip, Tryz.func81, by kernel_rfl, by kernel_rfl, by kernel_rfl, by kernel_rfl, by kernel_rfl⟩⟩
noncomputable def i_z1n : F_z1n Tryz.prog := ⟨47, i_z12, i_z1s, ⟨Tryz.f47, Tryz.f47.body.getD .skip, Tryz.func47, by kernel_rfl, by kernel_rfl, by kernel_rfl, by kernel_rfl, by kernel_rfl⟩⟩
noncomputable def i_z0v : F_z0v Tryz.prog := ⟨19, i_z0w, i_z10, i_z11, ⟨48⟩, i_z1n, ⟨Tryz.f19, Tryz.f19.body.getD .skip, Tryz.func19, by kernel_rfl, by kernel_rfl, by kernel_rfl, by kernel_rfl, by kernel_rfl⟩⟩
noncomputable def i_z0u : F_z0u Tryz.prog := ⟨55, i_z22, ⟨Tryz.f55, Tryz.f55.body.getD .skip, Tryz.func55, by kernel_rfl, by kernel_rfl, by kernel_rfl, by kernel_rfl, by kernel_rfl⟩⟩
noncomputable def i_z0t : F_z0t Tryz.prog := ⟨22, i_z0v, i_z11, i_z19, i_z22, i_z1m, ⟨55⟩, ⟨Tryz.f22, Tryz.f22.body.getD .skip, Tryz.func22, by kernel_rfl, by kernel_rfl, by kernel_rfl, by kernel_rfl, by kernel_rfl⟩⟩
noncomputable def i_z2h : F_z2h Tryz.prog := ⟨17, i_z2i, ⟨Tryz.f17, Tryz.f17.body.getD .skip, Tryz.func17, by kernel_rfl, by kernel_rfl, by kernel_rfl, by kernel_rfl, by kernel_rfl⟩⟩
noncomputable def i_z26 : F_z26 Tryz.prog := ⟨7, i_z27, i_z28, i_z3y, i_z0v, i_z0l, i_z0f, i_z2z, i_z2w, i_z0t, i_z2h, ⟨Tryz.f7, Tryz.f7.body.getD .skip, Tryz.func7, by kernel_rfl, by kernel_rfl, by kernel_rfl, by kernel_rfl, by kernel_rfl⟩⟩
/-- The numbers of the library's sort in this program. -/
def layRen : Go.Shelf.Ren := ⟨fun | 6 => 39 | 15 => 77 | 14 => 76 | 28 => 107 | 29 => 108 | 20 => 99 | 21 => 100 | 22 => 101 | 23 => 102 | 24 => 103 | 25 => 104 | 26 => 105 | 27 => 106 | 46 => 127 | 47 => 128 | 48 => 129 | 49 => 130 | 50 => 131 | 57 => 147 | n => n, fun | 22 => 48 | 24 => 58 | 25 => 93 | 3 => 3 | 39 => 128 | 0 => 0 | 53 => 155 | 55 => 157 | 4 => 4 | 46 => 148 | 45 => 147 | 50 => 152 | 5 => 5 | 9 => 9 | 66 => 168 | 70 => 172 | 76 => 189 | 77 => 190 | n => n, fun | n => n⟩
/-- The library's sort stands in this program. -/
theorem lay : Go.Proofs.SlLaysF0.n6 Tryz.prog layRen where
  mixed := by kernel_rfl
  f6 := ⟨ "slices.SortFunc[[]warehouse/api.Entry,warehouse/api.Entry]", by decide, Tryz.func39.trans (congrArg some (by kernel_rfl))⟩
  f14 := ⟨ "slices.pdqsortCmpFunc[warehouse/api.Entry]", by decide, Tryz.func76.trans (congrArg some (by kernel_rfl))⟩
  f15 := Tryz.func77.trans (congrArg some (by kernel_rfl))
  f20 := ⟨ "slices.insertionSortCmpFunc[warehouse/api.Entry]", by decide, Tryz.func99.trans (congrArg some (by kernel_rfl))⟩
  f21 := ⟨ "slices.heapSortCmpFunc[warehouse/api.Entry]", by decide, Tryz.func100.trans (congrArg some (by kernel_rfl))⟩
  f22 := ⟨ "slices.breakPatternsCmpFunc[warehouse/api.Entry]", by decide, Tryz.func101.trans (congrArg some (by kernel_rfl))⟩
  f23 := ⟨ "slices.choosePivotCmpFunc[warehouse/api.Entry]", by decide, Tryz.func102.trans (congrArg some (by kernel_rfl))⟩
  f24 := ⟨ "slices.reverseRangeCmpFunc[warehouse/api.Entry]", by decide, Tryz.func103.trans (congrArg some (by kernel_rfl))⟩
  f25 := ⟨ "slices.partialInsertionSortCmpFunc[warehouse/api.Entry]", by decide, Tryz.func104.trans (congrArg some (by kernel_rfl))⟩
  f26 := ⟨ "slices.partitionEqualCmpFunc[warehouse/api.Entry]", by decide, Tryz.func105.trans (congrArg some (by kernel_rfl))⟩
  f27 := ⟨ "slices.partitionCmpFunc[warehouse/api.Entry]", by decide, Tryz.func106.trans (congrArg some (by kernel_rfl))⟩
  f28 := Tryz.func107.trans (congrArg some (by kernel_rfl))
  f29 := Tryz.func108.trans (congrArg some (by kernel_rfl))
  f46 := ⟨ "slices.siftDownCmpFunc[warehouse/api.Entry]", by decide, Tryz.func127.trans (congrArg some (by kernel_rfl))⟩
  f47 := Tryz.func128.trans (congrArg some (by kernel_rfl))
  f48 := Tryz.func129.trans (congrArg some (by kernel_rfl))
  f49 := ⟨ "slices.medianAdjacentCmpFunc[warehouse/api.Entry]", by decide, Tryz.func130.trans (congrArg some (by kernel_rfl))⟩
  f50 := ⟨ "slices.medianCmpFunc[warehouse/api.Entry]", by decide, Tryz.func131.trans (congrArg some (by kernel_rfl))⟩
  f57 := ⟨ "slices.order2CmpFunc[warehouse/api.Entry]", by decide, Tryz.func147.trans (congrArg some (by kernel_rfl))⟩
  t0 := Tryz.underlying0
  a0 := Tryz.isAgg0
  z0 := Tryz.sizeOf0
  v0 := Tryz.zeroValue0
  t3 := Tryz.underlying3
  a3 := Tryz.isAgg3
  z3 := Tryz.sizeOf3
  v3 := Tryz.zeroValue3
  t4 := Tryz.underlying4
  a4 := Tryz.isAgg4
  z4 := Tryz.sizeOf4
  v4 := Tryz.zeroValue4
  t5 := Tryz.underlying5
  a5 := Tryz.isAgg5
  z5 := Tryz.sizeOf5
  v5 := Tryz.zeroValue5
  t9 := Tryz.underlying9
  a9 := Tryz.isAgg9
  z9 := Tryz.sizeOf9
  v9 := Tryz.zeroValue9
  t22 := Tryz.underlying48
  a22 := Tryz.isAgg48
  z22 := Tryz.sizeOf48
  v22 := Tryz.zeroValue48
  t25 := Tryz.underlying93
  a25 := Tryz.isAgg93
  z25 := Tryz.sizeOf93
  v25 := Tryz.zeroValue93
  t39 := Tryz.underlying128
  a39 := Tryz.isAgg128
  z39 := Tryz.sizeOf128
  v39 := Tryz.zeroValue128
  t45 := Tryz.underlying147
  a45 := Tryz.isAgg147
  z45 := Tryz.sizeOf147
  v45 := Tryz.zeroValue147
  t46 := Tryz.underlying148
  a46 := Tryz.isAgg148
  z46 := Tryz.sizeOf148
  v46 := Tryz.zeroValue148
  t50 := Tryz.underlying152
  a50 := Tryz.isAgg152
  z50 := Tryz.sizeOf152
  v50 := Tryz.zeroValue152
  t53 := Tryz.underlying155
  a53 := Tryz.isAgg155
  z53 := Tryz.sizeOf155
  v53 := Tryz.zeroValue155
  t55 := Tryz.underlying157
  a55 := Tryz.isAgg157
  z55 := Tryz.sizeOf157
  v55 := Tryz.zeroValue157
  t66 := Tryz.underlying168
  a66 := Tryz.isAgg168
  z66 := Tryz.sizeOf168
  v66 := Tryz.zeroValue168
  t70 := Tryz.underlying172
  a70 := Tryz.isAgg172
  z70 := Tryz.sizeOf172
  v70 := Tryz.zeroValue172
  t76 := Tryz.underlying189
  a76 := Tryz.isAgg189
  z76 := Tryz.sizeOf189
  v76 := Tryz.zeroValue189
  t77 := Tryz.underlying190
  a77 := Tryz.isAgg190
  z77 := Tryz.sizeOf190
  v77 := Tryz.zeroValue190
theorem srtI : SortE Tryz.prog 39 40 := sortE_I lay Tryz.isAgg58 Tryz.sizeOf58 i_z0m
theorem srtC : SortE Tryz.prog 39 55 := sortE_C lay Tryz.isAgg58 Tryz.sizeOf58 i_z0u
theorem srt : SortE Tryz.prog 39 136 := sortE_of lay Tryz.isAgg58 Tryz.sizeOf58 i_z06
/-- The numbers of the library's sort in this program. -/
def layRenV : Go.Shelf.Ren := ⟨fun | 6 => 47 | 15 => 77 | 14 => 81 | 28 => 107 | 29 => 108 | 20 => 110 | 21 => 111 | 22 => 112 | 23 => 113 | 24 => 114 | 25 => 115 | 26 => 116 | 27 => 117 | 46 => 132 | 47 => 128 | 48 => 129 | 49 => 133 | 50 => 134 | 57 => 148 | n => n, fun | 22 => 34 | 24 => 40 | 25 => 102 | 3 => 3 | 39 => 128 | 0 => 0 | 53 => 155 | 55 => 157 | 4 => 4 | 46 => 148 | 45 => 147 | 50 => 152 | 5 => 5 | 9 => 9 | 66 => 168 | 70 => 172 | 76 => 189 | 77 => 190 | n => n, fun | n => n⟩
/-- The library's sort stands in this program. -/
theorem layV : Go.Proofs.SlLaysF0.n6 Tryz.prog layRenV where
  mixed := by kernel_rfl
  f6 := ⟨ "slices.SortFunc[[]warehouse/api.Version,warehouse/api.Version]", by decide, Tryz.func47.trans (congrArg some (by kernel_rfl))⟩
  f14 := ⟨ "slices.pdqsortCmpFunc[warehouse/api.Version]", by decide, Tryz.func81.trans (congrArg some (by kernel_rfl))⟩
  f15 := Tryz.func77.trans (congrArg some (by kernel_rfl))
  f20 := ⟨ "slices.insertionSortCmpFunc[warehouse/api.Version]", by decide, Tryz.func110.trans (congrArg some (by kernel_rfl))⟩
  f21 := ⟨ "slices.heapSortCmpFunc[warehouse/api.Version]", by decide, Tryz.func111.trans (congrArg some (by kernel_rfl))⟩
  f22 := ⟨ "slices.breakPatternsCmpFunc[warehouse/api.Version]", by decide, Tryz.func112.trans (congrArg some (by kernel_rfl))⟩
  f23 := ⟨ "slices.choosePivotCmpFunc[warehouse/api.Version]", by decide, Tryz.func113.trans (congrArg some (by kernel_rfl))⟩
  f24 := ⟨ "slices.reverseRangeCmpFunc[warehouse/api.Version]", by decide, Tryz.func114.trans (congrArg some (by kernel_rfl))⟩
  f25 := ⟨ "slices.partialInsertionSortCmpFunc[warehouse/api.Version]", by decide, Tryz.func115.trans (congrArg some (by kernel_rfl))⟩
  f26 := ⟨ "slices.partitionEqualCmpFunc[warehouse/api.Version]", by decide, Tryz.func116.trans (congrArg some (by kernel_rfl))⟩
  f27 := ⟨ "slices.partitionCmpFunc[warehouse/api.Version]", by decide, Tryz.func117.trans (congrArg some (by kernel_rfl))⟩
  f28 := Tryz.func107.trans (congrArg some (by kernel_rfl))
  f29 := Tryz.func108.trans (congrArg some (by kernel_rfl))
  f46 := ⟨ "slices.siftDownCmpFunc[warehouse/api.Version]", by decide, Tryz.func132.trans (congrArg some (by kernel_rfl))⟩
  f47 := Tryz.func128.trans (congrArg some (by kernel_rfl))
  f48 := Tryz.func129.trans (congrArg some (by kernel_rfl))
  f49 := ⟨ "slices.medianAdjacentCmpFunc[warehouse/api.Version]", by decide, Tryz.func133.trans (congrArg some (by kernel_rfl))⟩
  f50 := ⟨ "slices.medianCmpFunc[warehouse/api.Version]", by decide, Tryz.func134.trans (congrArg some (by kernel_rfl))⟩
  f57 := ⟨ "slices.order2CmpFunc[warehouse/api.Version]", by decide, Tryz.func148.trans (congrArg some (by kernel_rfl))⟩
  t0 := Tryz.underlying0
  a0 := Tryz.isAgg0
  z0 := Tryz.sizeOf0
  v0 := Tryz.zeroValue0
  t3 := Tryz.underlying3
  a3 := Tryz.isAgg3
  z3 := Tryz.sizeOf3
  v3 := Tryz.zeroValue3
  t4 := Tryz.underlying4
  a4 := Tryz.isAgg4
  z4 := Tryz.sizeOf4
  v4 := Tryz.zeroValue4
  t5 := Tryz.underlying5
  a5 := Tryz.isAgg5
  z5 := Tryz.sizeOf5
  v5 := Tryz.zeroValue5
  t9 := Tryz.underlying9
  a9 := Tryz.isAgg9
  z9 := Tryz.sizeOf9
  v9 := Tryz.zeroValue9
  t22 := Tryz.underlying34
  a22 := Tryz.isAgg34
  z22 := Tryz.sizeOf34
  v22 := Tryz.zeroValue34
  t25 := Tryz.underlying102
  a25 := Tryz.isAgg102
  z25 := Tryz.sizeOf102
  v25 := Tryz.zeroValue102
  t39 := Tryz.underlying128
  a39 := Tryz.isAgg128
  z39 := Tryz.sizeOf128
  v39 := Tryz.zeroValue128
  t45 := Tryz.underlying147
  a45 := Tryz.isAgg147
  z45 := Tryz.sizeOf147
  v45 := Tryz.zeroValue147
  t46 := Tryz.underlying148
  a46 := Tryz.isAgg148
  z46 := Tryz.sizeOf148
  v46 := Tryz.zeroValue148
  t50 := Tryz.underlying152
  a50 := Tryz.isAgg152
  z50 := Tryz.sizeOf152
  v50 := Tryz.zeroValue152
  t53 := Tryz.underlying155
  a53 := Tryz.isAgg155
  z53 := Tryz.sizeOf155
  v53 := Tryz.zeroValue155
  t55 := Tryz.underlying157
  a55 := Tryz.isAgg157
  z55 := Tryz.sizeOf157
  v55 := Tryz.zeroValue157
  t66 := Tryz.underlying168
  a66 := Tryz.isAgg168
  z66 := Tryz.sizeOf168
  v66 := Tryz.zeroValue168
  t70 := Tryz.underlying172
  a70 := Tryz.isAgg172
  z70 := Tryz.sizeOf172
  v70 := Tryz.zeroValue172
  t76 := Tryz.underlying189
  a76 := Tryz.isAgg189
  z76 := Tryz.sizeOf189
  v76 := Tryz.zeroValue189
  t77 := Tryz.underlying190
  a77 := Tryz.isAgg190
  z77 := Tryz.sizeOf190
  v77 := Tryz.zeroValue190
theorem srtV : SortVr Tryz.prog 47 48 := sortVr_of layV Tryz.isAgg40 Tryz.sizeOf40 i_z0x

theorem lifted (os : Os) (started : os.Started) (H : Type) (enc : TypeId × Value → H) :
    ReturnsInHanded {} Tryz.checked os 7 .any (Rows.historyTravelsSpec.pre6 enc Tryz.prog Tryz.f7 Rows.historyTravelsRow.domain false) (Rows.historyTravelsSpec.post enc Tryz.prog Tryz.f7 false true false false) := by
  refine lifted_of_law (C := Tryz.checked) (n := 7) (tb := 4) (shs := [(false, [.int .i64]), (false, [.slice [.int .i64]]), (false, [.int .i64])]) own started (by kernel_rfl) Tryz.func7
    (ChangeSpec.witness6 (enc := enc) (C := Tryz.checked) false ⟨#[], #[.int .i64 0, .slice none 0 0, .int .i64 0], []⟩ 8 (by kernel_rfl) (by kernel_rfl) (by kernel_rfl) (by kernel_rfl))
    laidOut (by kernel_rfl) (fun ds hd => ?_) rfl (by kernel_rfl) Tryz.underlying4 (by kernel_rfl) i_z26.has ?_
  · have hd : ds.length = 3 := hd.trans (by kernel_rfl)
    obtain ⟨d0, d1, d2, rfl⟩ : ∃ d0 d1 d2, ds = [d0, d1, d2] := by
      match ds, hd with
      | [d0, d1, d2], _ => exact ⟨d0, d1, d2, rfl⟩
    rfl
  · intro xs h
    obtain ⟨y0, xs, rfl, p0, h⟩ := argsOk_cons h
    obtain ⟨y1, xs, rfl, p1, h⟩ := argsOk_cons h
    obtain ⟨y2, xs, rfl, p2, h⟩ := argsOk_cons h
    cases argsOk_nil h
    obtain ⟨x0, rfl, h0a⟩ := argOk_int p0
    obtain ⟨x1, rfl, h1a, h1b⟩ := argOk_ints p1
    obtain ⟨x2, rfl, h2a⟩ := argOk_int p2
    first
      | exact law_HistoryTravels i_z26 srtV srtV srtC srtI srt srtI srt srt x0 x1 x2
      | exact law_HistoryTravels i_z26 srtV srtV srtC srtI srt srtI srt srt x0 x1 x2 h0a h1a h1b h2a

theorem over : Rows.historyTravelsRow.holds Tryz.pinned (OpenSpec.ofChange Rows.historyTravelsSpec) :=
  OpenClaim.holds_of_wide 7 Tryz.f7 rfl rfl rfl rfl rfl rfl rfl ⟨rfl, rfl, rfl, rfl, rfl⟩ rfl rfl rfl rfl rfl (by kernel_rfl) Tryz.func7 (by kernel_rfl)
    (of_decide_eq_true (by kernel_rfl)) (by unfold Func.isWrapper; first | (rw [if_pos (by decide +kernel)]; kernel_rfl) | (rw [if_neg (by decide +kernel)]; exact ⟨rfl, rfl⟩))
    (fun os started H enc _ => lifted os started H enc)

theorem proved : Rows.HistoryTravelsSaid := over
#print axioms proved
end Go.Proofs.YtdffiibjghcobaaGreat.historyTravels
