/- TopCalls's runs. -/
import Derived.Test.YthmcpmdohmfeiaaGreatDoorCoL0
namespace Go.Proofs.YthmcpmdohmfeiaaGreatDoor
open Go Go.Ev
set_option linter.unusedVariables false
set_option linter.unusedSimpArgs false
set_option maxRecDepth 100000
namespace Tp
noncomputable section
theorem co_run1 : ∀ M, lawRunJ M coLE0 [(2, 1, 20, 1)] coAJ1 coBJ1 12 [.y .i64 2, wd 0 .u32 32] = tt := by
  intro M; kernel_rfl
theorem co_run2 : ∀ M, lawRunJ M coLE0 [(2, 1, 20, 2)] coAJ2 coBJ2 12 [.y .i64 2, wd 0 .u32 32] = tt := by
  intro M; kernel_rfl
theorem co_run3 : ∀ M, lawRunJ M coLE0 [(2, 1, 20, 3)] coAJ3 coBJ3 12 [.y .i64 2, wd 0 .u32 32] = tt := by
  intro M; kernel_rfl
theorem co_run4 : ∀ M, lawRunJ M coLE0 [(2, 1, 20, 4)] coAJ4 coBJ4 12 [.y .i64 2, wd 0 .u32 32] = tt := by
  intro M; kernel_rfl
theorem co_run5 : ∀ M, lawRunJ M coLE0 [(2, 1, 20, 5)] coAJ5 coBJ5 12 [.y .i64 2, wd 0 .u32 32] = tt := by
  intro M; kernel_rfl
end
end Tp
end Go.Proofs.YthmcpmdohmfeiaaGreatDoor
