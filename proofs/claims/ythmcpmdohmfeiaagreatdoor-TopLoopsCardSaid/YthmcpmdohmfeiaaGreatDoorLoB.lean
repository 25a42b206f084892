/- TopLoops: runs of eight, translated. -/
import Derived.Test.YthmcpmdohmfeiaaGreatDoorLoA
namespace Go.Proofs.YthmcpmdohmfeiaaGreatDoor
open Go Go.Ev
set_option linter.unusedVariables false
set_option linter.unusedSimpArgs false
set_option maxRecDepth 100000
namespace Tp
noncomputable section
theorem loA_p0 : runP loAGp0 loA0 loA1 loAXp0 = tt := by kernel_rfl
theorem loA_p1 : runP loAGp1 loA1 loAG loAXp1 = tt := by kernel_rfl
theorem loA_pg : runP loAGpg loAG loAG loAXpg = tt := by kernel_rfl
theorem loA_z0 : runP loAGz0 loA0 loAZ loAXz0 = tt := by kernel_rfl
end
end Tp
end Go.Proofs.YthmcpmdohmfeiaaGreatDoor
