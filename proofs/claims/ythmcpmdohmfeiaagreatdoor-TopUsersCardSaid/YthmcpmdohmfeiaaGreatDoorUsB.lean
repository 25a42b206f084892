/- TopUsers' runs 2 and 3, for any word. -/
import Derived.Test.YthmcpmdohmfeiaaGreatDoorTc
namespace Go.Proofs.YthmcpmdohmfeiaaGreatDoor.Tp
open Go Go.Ev
theorem users_run2 : lawRun [] [(2, 0, 4, 2)] 8 [.y .i64 2, wd 0 .u32 32] = tt := by kernel_rfl
theorem users_run3 : lawRun [] [(2, 0, 4, 3)] 8 [.y .i64 2, wd 0 .u32 32] = tt := by kernel_rfl
end Go.Proofs.YthmcpmdohmfeiaaGreatDoor.Tp
