/- TopTimer: runs of eight, translated. -/
import Derived.Test.YthmcpmdohmfeiaaGreatDoorTiA
namespace Go.Proofs.YthmcpmdohmfeiaaGreatDoor
open Go Go.Ev
set_option linter.unusedVariables false
set_option linter.unusedSimpArgs false
set_option maxRecDepth 100000
namespace Tp
noncomputable section
theorem tiA_p0 : runP tiAGp0 tiA0 tiA1 tiAXp0 = tt := by kernel_rfl
theorem tiA_p1 : runP tiAGp1 tiA1 tiAG tiAXp1 = tt := by kernel_rfl
theorem tiA_pg : runP tiAGpg tiAG tiAG tiAXpg = tt := by kernel_rfl
end
end Tp
end Go.Proofs.YthmcpmdohmfeiaaGreatDoor
