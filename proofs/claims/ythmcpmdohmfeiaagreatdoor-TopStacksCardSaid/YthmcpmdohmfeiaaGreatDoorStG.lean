/- TopStacks' runs 3 0, 7 0, 11 0, 15 0, 19 0. -/
import Derived.Test.YthmcpmdohmfeiaaGreatDoorTc
namespace Go.Proofs.YthmcpmdohmfeiaaGreatDoor.Tp
open Go Go.Ev
theorem stacks_run3_0 : lawRun [] [(2, 0, 20, 3)] 13 [.y .i64 2, .f] = tt := by kernel_rfl
theorem stacks_run7_0 : lawRun [] [(2, 0, 20, 7)] 13 [.y .i64 2, .f] = tt := by kernel_rfl
theorem stacks_run11_0 : lawRun [] [(2, 0, 20, 11)] 13 [.y .i64 2, .f] = tt := by kernel_rfl
theorem stacks_run15_0 : lawRun [] [(2, 0, 20, 15)] 13 [.y .i64 2, .f] = tt := by kernel_rfl
theorem stacks_run19_0 : lawRun [] [(2, 0, 20, 19)] 13 [.y .i64 2, .f] = tt := by kernel_rfl
end Go.Proofs.YthmcpmdohmfeiaaGreatDoor.Tp
