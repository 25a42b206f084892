/- TopPaging's runs, the bytes not nought, nought. -/
import Derived.Test.YthmcpmdohmfeiaaGreatDoorTc
namespace Go.Proofs.YthmcpmdohmfeiaaGreatDoor.Tp
open Go Go.Ev
theorem paging_run100 : lawRun [⟨0, [.v 0 0 8], [], false⟩] [] 6 [wd 0 .u8 8, .n .u8 0, .f] = tt := by kernel_rfl
theorem paging_run101 : lawRun [⟨0, [.v 0 0 8], [], false⟩] [] 6 [wd 0 .u8 8, .n .u8 0, .t] = tt := by kernel_rfl
end Go.Proofs.YthmcpmdohmfeiaaGreatDoor.Tp
