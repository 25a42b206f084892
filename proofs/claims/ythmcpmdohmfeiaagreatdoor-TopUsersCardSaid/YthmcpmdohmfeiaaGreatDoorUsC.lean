/- TopUsers' runs 4, for any word. -/
import Derived.Test.YthmcpmdohmfeiaaGreatDoorTc
namespace Go.Proofs.YthmcpmdohmfeiaaGreatDoor.Tp
open Go Go.Ev
theorem users_run4 : lawRun [] [(2, 0, 4, 4)] 8 [.y .i64 2, wd 0 .u32 32] = tt := by kernel_rfl
end Go.Proofs.YthmcpmdohmfeiaaGreatDoor.Tp
