/- TopPaging's runs, the bytes not nought, not nought. -/
import Derived.Test.YthmcpmdohmfeiaaGreatDoorTc
namespace Go.Proofs.YthmcpmdohmfeiaaGreatDoor.Tp
open Go Go.Ev
theorem paging_run110 : lawRun [⟨0, [.v 0 0 8], [], false⟩, ⟨0, [.v 1 0 8], [], false⟩] [] 6 [wd 0 .u8 8, wd 1 .u8 8, .f] = tt := by kernel_rfl
theorem paging_run111 : lawRun [⟨0, [.v 0 0 8], [], false⟩, ⟨0, [.v 1 0 8], [], false⟩] [] 6 [wd 0 .u8 8, wd 1 .u8 8, .t] = tt := by kernel_rfl
end Go.Proofs.YthmcpmdohmfeiaaGreatDoor.Tp
