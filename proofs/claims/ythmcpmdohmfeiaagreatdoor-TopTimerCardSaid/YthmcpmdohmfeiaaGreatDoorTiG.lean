/- TopTimer's run, for any time. -/
import Derived.Test.YthmcpmdohmfeiaaGreatDoorTiF
namespace Go.Proofs.YthmcpmdohmfeiaaGreatDoor
open Go Go.Ev
set_option linter.unusedVariables false
set_option linter.unusedSimpArgs false
set_option maxRecDepth 100000
namespace Tp
noncomputable section
theorem timer_run : ∀ M, lawRunJ M tiG [] tiAJ tiBJ 7 [wd 0 .u32 32] = tt := by
  intro M; kernel_rfl
end
end Tp
end Go.Proofs.YthmcpmdohmfeiaaGreatDoor
