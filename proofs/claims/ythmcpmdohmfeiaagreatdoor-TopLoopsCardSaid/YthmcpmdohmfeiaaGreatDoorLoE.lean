/- TopLoops: runs of eight, read. -/
import Derived.Test.YthmcpmdohmfeiaaGreatDoorLoA
namespace Go.Proofs.YthmcpmdohmfeiaaGreatDoor
open Go Go.Ev
set_option linter.unusedVariables false
set_option linter.unusedSimpArgs false
set_option maxRecDepth 100000
namespace Tp
noncomputable section
theorem loB_p0 : runP loBGp0 loB0 loBG loBXp0 = tt := by kernel_rfl
theorem loB_pg : runP loBGpg loBG loBG loBXpg = tt := by kernel_rfl
theorem loB_z0 : runP loBGz0 loB0 loBZ loBXz0 = tt := by kernel_rfl
theorem loB_zG : runP loBGzG loBG loBZ loBXzG = tt := by kernel_rfl
theorem loB_l0 : lookP false loB0 loBI0 = tt := by kernel_rfl
theorem loB_lG : lookP false loBG loBIG = tt := by kernel_rfl
theorem loB_lZ : lookP true loBZ loBIZ = tt := by kernel_rfl
theorem loB_lM : lookP true loBM loBIM = tt := by kernel_rfl
end
end Tp
end Go.Proofs.YthmcpmdohmfeiaaGreatDoor
