/- TopLoops: runs of eight, translated. -/
import Derived.Test.YthmcpmdohmfeiaaGreatDoorLoA
namespace Go.Proofs.YthmcpmdohmfeiaaGreatDoor
open Go Go.Ev
set_option linter.unusedVariables false
set_option linter.unusedSimpArgs false
set_option maxRecDepth 100000
namespace Tp
noncomputable section
theorem loA_z1 : runP loAGz1 loA1 loAZ loAXz1 = tt := by kernel_rfl
theorem loA_m10 : runP loAGm10 loA1 loAM loAXm10 = tt := by kernel_rfl
theorem loA_m11 : runP loAGm11 loA1 loAM loAXm11 = tt := by kernel_rfl
theorem loA_m12 : runP loAGm12 loA1 loAM loAXm12 = tt := by kernel_rfl
theorem loA_m13 : runP loAGm13 loA1 loAM loAXm13 = tt := by kernel_rfl
theorem loA_l0 : lookP false loA0 loAI0 = tt := by kernel_rfl
theorem loA_l1 : lookP false loA1 loAI1 = tt := by kernel_rfl
theorem loA_lG : lookP false loAG loAIG = tt := by kernel_rfl
theorem loA_lZ : lookP true loAZ loAIZ = tt := by kernel_rfl
theorem loA_lM : lookP true loAM loAIM = tt := by kernel_rfl
end
end Tp
end Go.Proofs.YthmcpmdohmfeiaaGreatDoor
