/- TopTimer: runs of eight, translated. -/
import Derived.Test.YthmcpmdohmfeiaaGreatDoorTiA
namespace Go.Proofs.YthmcpmdohmfeiaaGreatDoor
open Go Go.Ev
set_option linter.unusedVariables false
set_option linter.unusedSimpArgs false
set_option maxRecDepth 100000
namespace Tp
noncomputable section
theorem tiA_e0 : runP tiAGe0 tiAG tiAE tiAXe0 = tt := by kernel_rfl
theorem tiA_e1 : runP tiAGe1 tiAG tiAE tiAXe1 = tt := by kernel_rfl
theorem tiA_e2 : runP tiAGe2 tiAG tiAE tiAXe2 = tt := by kernel_rfl
theorem tiA_e3 : runP tiAGe3 tiAG tiAE tiAXe3 = tt := by kernel_rfl
theorem tiA_e4 : runP tiAGe4 tiAG tiAE tiAXe4 = tt := by kernel_rfl
end
end Tp
end Go.Proofs.YthmcpmdohmfeiaaGreatDoor
