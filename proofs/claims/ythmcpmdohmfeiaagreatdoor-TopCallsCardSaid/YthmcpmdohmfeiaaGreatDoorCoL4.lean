/- TopCalls's runs. -/
import Derived.Test.YthmcpmdohmfeiaaGreatDoorCoL0
namespace Go.Proofs.YthmcpmdohmfeiaaGreatDoor
open Go Go.Ev
set_option linter.unusedVariables false
set_option linter.unusedSimpArgs false
set_option maxRecDepth 100000
namespace Tp
noncomputable section
theorem co_run16 : ∀ M, lawRunJ M coLE0 [(2, 1, 20, 16)] coAJ16 coBJ16 12 [.y .i64 2, wd 0 .u32 32] = tt := by
  intro M; kernel_rfl
theorem co_run17 : ∀ M, lawRunJ M coLE1 [(2, 1, 20, 17)] coAJ17 coBJ17 12 [.y .i64 2, wd 0 .u32 32] = tt := by
  intro M; kernel_rfl
theorem co_run18 : ∀ M, lawRunJ M coLE1 [(2, 1, 20, 18)] coAJ18 coBJ18 12 [.y .i64 2, wd 0 .u32 32] = tt := by
  intro M; kernel_rfl
theorem co_run19 : ∀ M, lawRunJ M coLE1 [(2, 1, 20, 19)] coAJ19 coBJ19 12 [.y .i64 2, wd 0 .u32 32] = tt := by
  intro M; kernel_rfl
theorem co_run20 : ∀ M, lawRunJ M coLE1 [(2, 1, 20, 20)] coAJ20 coBJ20 12 [.y .i64 2, wd 0 .u32 32] = tt := by
  intro M; kernel_rfl
end
end Tp
end Go.Proofs.YthmcpmdohmfeiaaGreatDoor
