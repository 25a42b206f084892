/- TopUsers' runs 0 and 1, for any word. -/
import Derived.Test.YthmcpmdohmfeiaaGreatDoorTc
namespace Go.Proofs.YthmcpmdohmfeiaaGreatDoor.Tp
open Go Go.Ev
theorem users_run0 : lawRun [] [(2, 0, 4, 0)] 8 [.y .i64 2, wd 0 .u32 32] = tt := by kernel_rfl
theorem users_run1 : lawRun [] [(2, 0, 4, 1)] 8 [.y .i64 2, wd 0 .u32 32] = tt := by kernel_rfl
end Go.Proofs.YthmcpmdohmfeiaaGreatDoor.Tp
