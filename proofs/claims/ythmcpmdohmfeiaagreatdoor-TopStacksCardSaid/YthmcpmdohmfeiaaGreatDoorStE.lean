/- TopStacks' runs 2 0, 6 0, 10 0, 14 0, 18 0. -/
import Derived.Test.YthmcpmdohmfeiaaGreatDoorTc
namespace Go.Proofs.YthmcpmdohmfeiaaGreatDoor.Tp
open Go Go.Ev
theorem stacks_run2_0 : lawRun [] [(2, 0, 20, 2)] 13 [.y .i64 2, .f] = tt := by kernel_rfl
theorem stacks_run6_0 : lawRun [] [(2, 0, 20, 6)] 13 [.y .i64 2, .f] = tt := by kernel_rfl
theorem stacks_run10_0 : lawRun [] [(2, 0, 20, 10)] 13 [.y .i64 2, .f] = tt := by kernel_rfl
theorem stacks_run14_0 : lawRun [] [(2, 0, 20, 14)] 13 [.y .i64 2, .f] = tt := by kernel_rfl
theorem stacks_run18_0 : lawRun [] [(2, 0, 20, 18)] 13 [.y .i64 2, .f] = tt := by kernel_rfl
end Go.Proofs.YthmcpmdohmfeiaaGreatDoor.Tp
