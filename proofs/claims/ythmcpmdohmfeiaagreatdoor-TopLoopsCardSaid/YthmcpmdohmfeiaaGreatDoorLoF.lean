/- TopLoops: runs of eight, read. -/
import Derived.Test.YthmcpmdohmfeiaaGreatDoorLoA
namespace Go.Proofs.YthmcpmdohmfeiaaGreatDoor
open Go Go.Ev
set_option linter.unusedVariables false
set_option linter.unusedSimpArgs false
set_option maxRecDepth 100000
namespace Tp
noncomputable section
theorem loB_mG0 : runP loBGmG0 loBG loBM loBXmG0 = tt := by kernel_rfl
theorem loB_mG1 : runP loBGmG1 loBG loBM loBXmG1 = tt := by kernel_rfl
theorem loB_mG2 : runP loBGmG2 loBG loBM loBXmG2 = tt := by kernel_rfl
theorem loB_mG3 : runP loBGmG3 loBG loBM loBXmG3 = tt := by kernel_rfl
end
end Tp
end Go.Proofs.YthmcpmdohmfeiaaGreatDoor
