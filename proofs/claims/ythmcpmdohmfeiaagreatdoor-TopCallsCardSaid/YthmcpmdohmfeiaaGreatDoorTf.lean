/- What is told of the whole program, once. -/
import Derived.Test.YthmcpmdohmfeiaaGreatDoorTc
namespace Go.Proofs.YthmcpmdohmfeiaaGreatDoor.Tp
open Go Go.Ev Go.ChangeShapes Go.WideShapes Go.ChangeAt Go.RowKit
theorem glob1 : laidOutB Tryz.prog = true := by kernel_rfl
theorem glob2 : mapsRowed Tryz.prog = true := by kernel_rfl
theorem glob6 : (Tryz.prog.stops == []) = true := by kernel_rfl
theorem glob8 : (Tryz.prog.stopKnobs == []) = true := by kernel_rfl
theorem glob24 : Tryz.prog.stopsHeard = true := by kernel_rfl
theorem glob25 : Tryz.prog.mayEnter = true := by kernel_rfl
theorem mainIs : Tryz.pinned.checked.prog.mainIs = some (Rows.topSelfCard.stood.harness.1, Rows.topSelfCard.stood.harness.2.toList) := by kernel_rfl
theorem noLooks : false = Tryz.pinned.checked.prog.looks [] := by kernel_rfl
end Go.Proofs.YthmcpmdohmfeiaaGreatDoor.Tp
