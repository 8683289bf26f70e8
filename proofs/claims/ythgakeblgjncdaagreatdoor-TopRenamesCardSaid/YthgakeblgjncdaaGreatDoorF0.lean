/-
  Closed facts about the row of TopRenames, one by one.
  No condition.
-/
import Derived.Test.YthgakeblgjncdaaGreatDoorRows
import Derived.KernelRfl
import Derived.ProofKit
import Derived.WalkKit
namespace Go.Proofs.YthgakeblgjncdaaGreatDoor.topRenames
open Go.ChangeShapes Go.WideShapes Go.ChangeAt Go.RowKit
set_option maxRecDepth 100000
theorem own : ownKnob Tryz.prog.godebug = none := by kernel_rfl
theorem laidOut : laidOutB Tryz.prog = true := by kernel_rfl
theorem jf0 : (Rows.topRenamesRow.wf (OpenSpec.ofChange Rows.topRenamesSpec)) = true := by kernel_rfl
theorem jf2 : (mapsRowed Tryz.prog) = true := by kernel_rfl
theorem jf3 : (Tryz.f3.params.all (Tryz.prog.readableRec ·)) = true := by kernel_rfl
theorem jf4 : (namedTie Tryz.prog Rows.topRenamesRow.named Rows.topRenamesSpec.vars) = true := by kernel_rfl
theorem jf5 : ((Rows.topRenamesRow.stops == [])) = true := by kernel_rfl
theorem jf6 : ((Tryz.prog.stops == [])) = true := by kernel_rfl
theorem jf7 : ((Rows.topRenamesRow.knobs == [])) = true := by kernel_rfl
theorem jf8 : ((Tryz.prog.stopKnobs == [])) = true := by kernel_rfl
theorem jf9 : ((Rows.topRenamesRow.inPlace == Tryz.prog.inPlace 3)) = true := by kernel_rfl
theorem jf10 : ((Rows.topRenamesRow.unfollowed == Tryz.prog.unfollowed 3)) = true := by kernel_rfl
theorem jf11 : ((Rows.topRenamesRow.recurses == Tryz.prog.recurses 3)) = true := by kernel_rfl
theorem jf12 : ((Rows.topRenamesRow.named == Tryz.prog.varsNamed 3)) = true := by kernel_rfl
end Go.Proofs.YthgakeblgjncdaaGreatDoor.topRenames
