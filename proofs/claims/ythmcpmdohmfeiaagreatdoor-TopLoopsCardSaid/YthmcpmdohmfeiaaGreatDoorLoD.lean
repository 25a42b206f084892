/- TopLoops: runs of eight, translated. -/
import Derived.Test.YthmcpmdohmfeiaaGreatDoorLoA
namespace Go.Proofs.YthmcpmdohmfeiaaGreatDoor
open Go Go.Ev
set_option linter.unusedVariables false
set_option linter.unusedSimpArgs false
set_option maxRecDepth 100000
namespace Tp
noncomputable section
theorem loA_zG : runP loAGzG loAG loAZ loAXzG = tt := by kernel_rfl
theorem loA_mG0 : runP loAGmG0 loAG loAM loAXmG0 = tt := by kernel_rfl
theorem loA_mG1 : runP loAGmG1 loAG loAM loAXmG1 = tt := by kernel_rfl
theorem loA_mG2 : runP loAGmG2 loAG loAM loAXmG2 = tt := by kernel_rfl
theorem loA_mG3 : runP loAGmG3 loAG loAM loAXmG3 = tt := by kernel_rfl
end
end Tp
end Go.Proofs.YthmcpmdohmfeiaaGreatDoor
