/- TopStacks' runs 1 1, 5 1, 9 1, 13 1, 17 1. -/
import Derived.Test.YthmcpmdohmfeiaaGreatDoorTc
namespace Go.Proofs.YthmcpmdohmfeiaaGreatDoor.Tp
open Go Go.Ev
theorem stacks_run1_1 : lawRun [] [(2, 0, 20, 1)] 13 [.y .i64 2, .t] = tt := by kernel_rfl
theorem stacks_run5_1 : lawRun [] [(2, 0, 20, 5)] 13 [.y .i64 2, .t] = tt := by kernel_rfl
theorem stacks_run9_1 : lawRun [] [(2, 0, 20, 9)] 13 [.y .i64 2, .t] = tt := by kernel_rfl
theorem stacks_run13_1 : lawRun [] [(2, 0, 20, 13)] 13 [.y .i64 2, .t] = tt := by kernel_rfl
theorem stacks_run17_1 : lawRun [] [(2, 0, 20, 17)] 13 [.y .i64 2, .t] = tt := by kernel_rfl
end Go.Proofs.YthmcpmdohmfeiaaGreatDoor.Tp
