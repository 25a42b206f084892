/- TopStacks' runs 1 0, 5 0, 9 0, 13 0, 17 0. -/
import Derived.Test.YthmcpmdohmfeiaaGreatDoorTc
namespace Go.Proofs.YthmcpmdohmfeiaaGreatDoor.Tp
open Go Go.Ev
theorem stacks_run1_0 : lawRun [] [(2, 0, 20, 1)] 13 [.y .i64 2, .f] = tt := by kernel_rfl
theorem stacks_run5_0 : lawRun [] [(2, 0, 20, 5)] 13 [.y .i64 2, .f] = tt := by kernel_rfl
theorem stacks_run9_0 : lawRun [] [(2, 0, 20, 9)] 13 [.y .i64 2, .f] = tt := by kernel_rfl
theorem stacks_run13_0 : lawRun [] [(2, 0, 20, 13)] 13 [.y .i64 2, .f] = tt := by kernel_rfl
theorem stacks_run17_0 : lawRun [] [(2, 0, 20, 17)] 13 [.y .i64 2, .f] = tt := by kernel_rfl
end Go.Proofs.YthmcpmdohmfeiaaGreatDoor.Tp
