/-
  DERIVED. GIVEN WITH THE SEED: THE CARDS: each row of YthmcpmdohmfeiaaGreatDoorRows.lean that lists a variable, with what it lists TIED to the program's text (the seventh form; the later family's looks); each row that meets fmt, with fmt's text TOLD by the authors' own Lean function (tested against real Go, not proved from fmt's source: count such statements apart). THE CARD IS WHAT COUNTS. Prove the row's statement (the work); the ties are given (YthmcpmdohmfeiaaGreatDoorTie.lean); close each card by the builder's one call (the guide's Derived/Test/ToyasCard.lean, 'card_holds'). Laid BY PROGRAM, IN A SANDBOX (cutbox-door.mjs). By AI agents, Wed Nov 11 2026. No macro, syntax, notation, axiom, sorry.
-/
import Derived.Test.YthmcpmdohmfeiaaGreatDoorRows
import GoSem.ClaimSeven
namespace Go.Proofs.YthmcpmdohmfeiaaGreatDoor
namespace Rows

/-- THE TIED CARD OF 'innkeepertop.TopTraps'. -/
def topTrapsCard : Claim7 := { stood := { row := topTrapsRow, standIns := [], harness := (true, "1ad5bd3beb760c6b15107118fd894621ac1527304abc57f9bdf7c9f4d570632a"), looks := false }, kinds := [], alts := [], laidByText := true, laidKinds := [.data], laidTests := true, laidLooks := .later }
def TopTrapsCardSaid : Prop := Claim7.holds Tryz.pinned (.plain (OpenSpec.ofChange topTrapsSpec)) topTrapsCard

/-- THE TIED CARD OF 'innkeepertop.TopSelf'. -/
def topSelfCard : Claim7 := { stood := { row := topSelfRow, standIns := [], harness := (true, "1ad5bd3beb760c6b15107118fd894621ac1527304abc57f9bdf7c9f4d570632a"), looks := false }, kinds := [], alts := [], laidByText := true, laidKinds := [.data], laidTests := true, laidLooks := .later }
def TopSelfCardSaid : Prop := Claim7.holds Tryz.pinned (.plain (OpenSpec.ofChange topSelfSpec)) topSelfCard

/-- THE TIED CARD OF 'innkeepertop.TopDrive'. -/
def topDriveCard : Claim7 := { stood := { row := topDriveRow, standIns := [], harness := (true, "1ad5bd3beb760c6b15107118fd894621ac1527304abc57f9bdf7c9f4d570632a"), looks := false }, kinds := [], alts := [], laidByText := true, laidKinds := [.data], laidTests := true, laidLooks := .later }
def TopDriveCardSaid : Prop := Claim7.holds Tryz.pinned (.plain (OpenSpec.ofChange topDriveSpec)) topDriveCard

/-- THE TIED CARD OF 'innkeepertop.TopPaging'. -/
def topPagingCard : Claim7 := { stood := { row := topPagingRow, standIns := [], harness := (true, "1ad5bd3beb760c6b15107118fd894621ac1527304abc57f9bdf7c9f4d570632a"), looks := false }, kinds := [], alts := [], laidByText := true, laidKinds := [.data], laidTests := true, laidLooks := .later }
def TopPagingCardSaid : Prop := Claim7.holds Tryz.pinned (.plain (OpenSpec.ofChange topPagingSpec)) topPagingCard

/-- THE TIED CARD OF 'innkeepertop.TopTimer'. -/
def topTimerCard : Claim7 := { stood := { row := topTimerRow, standIns := [], harness := (true, "1ad5bd3beb760c6b15107118fd894621ac1527304abc57f9bdf7c9f4d570632a"), looks := false }, kinds := [], alts := [], laidByText := true, laidKinds := [.data], laidTests := true, laidLooks := .later }
def TopTimerCardSaid : Prop := Claim7.holds Tryz.pinned (.plain (OpenSpec.ofChange topTimerSpec)) topTimerCard

/-- THE TIED CARD OF 'innkeepertop.TopUsers'. -/
def topUsersCard : Claim7 := { stood := { row := topUsersRow, standIns := [], harness := (true, "1ad5bd3beb760c6b15107118fd894621ac1527304abc57f9bdf7c9f4d570632a"), looks := false }, kinds := [], alts := [], laidByText := true, laidKinds := [.data], laidTests := true, laidLooks := .later }
def TopUsersCardSaid : Prop := Claim7.holds Tryz.pinned (.plain (OpenSpec.ofChange topUsersSpec)) topUsersCard

/-- THE TIED CARD OF 'innkeepertop.TopRuns'. -/
def topRunsCard : Claim7 := { stood := { row := topRunsRow, standIns := [], harness := (true, "1ad5bd3beb760c6b15107118fd894621ac1527304abc57f9bdf7c9f4d570632a"), looks := false }, kinds := [], alts := [], laidByText := true, laidKinds := [.data], laidTests := true, laidLooks := .later }
def TopRunsCardSaid : Prop := Claim7.holds Tryz.pinned (.plain (OpenSpec.ofChange topRunsSpec)) topRunsCard

/-- THE TIED CARD OF 'innkeepertop.TopLoops'. -/
def topLoopsCard : Claim7 := { stood := { row := topLoopsRow, standIns := [], harness := (true, "1ad5bd3beb760c6b15107118fd894621ac1527304abc57f9bdf7c9f4d570632a"), looks := false }, kinds := [], alts := [], laidByText := true, laidKinds := [.data], laidTests := true, laidLooks := .later }
def TopLoopsCardSaid : Prop := Claim7.holds Tryz.pinned (.plain (OpenSpec.ofChange topLoopsSpec)) topLoopsCard

/-- THE TIED CARD OF 'innkeepertop.TopCopies'. -/
def topCopiesCard : Claim7 := { stood := { row := topCopiesRow, standIns := [], harness := (true, "1ad5bd3beb760c6b15107118fd894621ac1527304abc57f9bdf7c9f4d570632a"), looks := false }, kinds := [], alts := [], laidByText := true, laidKinds := [.data], laidTests := true, laidLooks := .later }
def TopCopiesCardSaid : Prop := Claim7.holds Tryz.pinned (.plain (OpenSpec.ofChange topCopiesSpec)) topCopiesCard

/-- THE TIED CARD OF 'innkeepertop.TopCalls'. -/
def topCallsCard : Claim7 := { stood := { row := topCallsRow, standIns := [], harness := (true, "1ad5bd3beb760c6b15107118fd894621ac1527304abc57f9bdf7c9f4d570632a"), looks := false }, kinds := [], alts := [], laidByText := true, laidKinds := [.data], laidTests := true, laidLooks := .later }
def TopCallsCardSaid : Prop := Claim7.holds Tryz.pinned (.plain (OpenSpec.ofChange topCallsSpec)) topCallsCard

/-- THE TIED CARD OF 'innkeepertop.TopStacks'. -/
def topStacksCard : Claim7 := { stood := { row := topStacksRow, standIns := [], harness := (true, "1ad5bd3beb760c6b15107118fd894621ac1527304abc57f9bdf7c9f4d570632a"), looks := false }, kinds := [], alts := [], laidByText := true, laidKinds := [.data], laidTests := true, laidLooks := .later }
def TopStacksCardSaid : Prop := Claim7.holds Tryz.pinned (.plain (OpenSpec.ofChange topStacksSpec)) topStacksCard

/-- THE TIED CARD OF 'innkeepertop.TopSyscalls'. -/
def topSyscallsCard : Claim7 := { stood := { row := topSyscallsRow, standIns := [], harness := (true, "1ad5bd3beb760c6b15107118fd894621ac1527304abc57f9bdf7c9f4d570632a"), looks := false }, kinds := [], alts := [], laidByText := true, laidKinds := [.data], laidTests := true, laidLooks := .later }
def TopSyscallsCardSaid : Prop := Claim7.holds Tryz.pinned (.plain (OpenSpec.ofChange topSyscallsSpec)) topSyscallsCard

/-- THE SECOND FORM's CARD OF 'innkeepertop.TopTraps'. -/
def topTrapsUptoCard : Claim7 := { stood := { row := topTrapsUptoRow, standIns := [], harness := (true, "1ad5bd3beb760c6b15107118fd894621ac1527304abc57f9bdf7c9f4d570632a"), looks := false }, kinds := [], alts := [], laidByText := true, laidKinds := [.data], laidTests := true, laidLooks := .later }
def TopTrapsUptoCardSaid : Prop := Claim7.holds Tryz.pinned (.plain (OpenSpec.upto topTrapsSpec)) topTrapsUptoCard

/-- THE SECOND FORM's CARD OF 'innkeepertop.TopSelf'. -/
def topSelfUptoCard : Claim7 := { stood := { row := topSelfUptoRow, standIns := [], harness := (true, "1ad5bd3beb760c6b15107118fd894621ac1527304abc57f9bdf7c9f4d570632a"), looks := false }, kinds := [], alts := [], laidByText := true, laidKinds := [.data], laidTests := true, laidLooks := .later }
def TopSelfUptoCardSaid : Prop := Claim7.holds Tryz.pinned (.plain (OpenSpec.upto topSelfSpec)) topSelfUptoCard

/-- THE SECOND FORM's CARD OF 'innkeepertop.TopDrive'. -/
def topDriveUptoCard : Claim7 := { stood := { row := topDriveUptoRow, standIns := [], harness := (true, "1ad5bd3beb760c6b15107118fd894621ac1527304abc57f9bdf7c9f4d570632a"), looks := false }, kinds := [], alts := [], laidByText := true, laidKinds := [.data], laidTests := true, laidLooks := .later }
def TopDriveUptoCardSaid : Prop := Claim7.holds Tryz.pinned (.plain (OpenSpec.upto topDriveSpec)) topDriveUptoCard

/-- THE SECOND FORM's CARD OF 'innkeepertop.TopPaging'. -/
def topPagingUptoCard : Claim7 := { stood := { row := topPagingUptoRow, standIns := [], harness := (true, "1ad5bd3beb760c6b15107118fd894621ac1527304abc57f9bdf7c9f4d570632a"), looks := false }, kinds := [], alts := [], laidByText := true, laidKinds := [.data], laidTests := true, laidLooks := .later }
def TopPagingUptoCardSaid : Prop := Claim7.holds Tryz.pinned (.plain (OpenSpec.upto topPagingSpec)) topPagingUptoCard

/-- THE SECOND FORM's CARD OF 'innkeepertop.TopTimer'. -/
def topTimerUptoCard : Claim7 := { stood := { row := topTimerUptoRow, standIns := [], harness := (true, "1ad5bd3beb760c6b15107118fd894621ac1527304abc57f9bdf7c9f4d570632a"), looks := false }, kinds := [], alts := [], laidByText := true, laidKinds := [.data], laidTests := true, laidLooks := .later }
def TopTimerUptoCardSaid : Prop := Claim7.holds Tryz.pinned (.plain (OpenSpec.upto topTimerSpec)) topTimerUptoCard

/-- THE SECOND FORM's CARD OF 'innkeepertop.TopUsers'. -/
def topUsersUptoCard : Claim7 := { stood := { row := topUsersUptoRow, standIns := [], harness := (true, "1ad5bd3beb760c6b15107118fd894621ac1527304abc57f9bdf7c9f4d570632a"), looks := false }, kinds := [], alts := [], laidByText := true, laidKinds := [.data], laidTests := true, laidLooks := .later }
def TopUsersUptoCardSaid : Prop := Claim7.holds Tryz.pinned (.plain (OpenSpec.upto topUsersSpec)) topUsersUptoCard

/-- THE SECOND FORM's CARD OF 'innkeepertop.TopRuns'. -/
def topRunsUptoCard : Claim7 := { stood := { row := topRunsUptoRow, standIns := [], harness := (true, "1ad5bd3beb760c6b15107118fd894621ac1527304abc57f9bdf7c9f4d570632a"), looks := false }, kinds := [], alts := [], laidByText := true, laidKinds := [.data], laidTests := true, laidLooks := .later }
def TopRunsUptoCardSaid : Prop := Claim7.holds Tryz.pinned (.plain (OpenSpec.upto topRunsSpec)) topRunsUptoCard

/-- THE SECOND FORM's CARD OF 'innkeepertop.TopLoops'. -/
def topLoopsUptoCard : Claim7 := { stood := { row := topLoopsUptoRow, standIns := [], harness := (true, "1ad5bd3beb760c6b15107118fd894621ac1527304abc57f9bdf7c9f4d570632a"), looks := false }, kinds := [], alts := [], laidByText := true, laidKinds := [.data], laidTests := true, laidLooks := .later }
def TopLoopsUptoCardSaid : Prop := Claim7.holds Tryz.pinned (.plain (OpenSpec.upto topLoopsSpec)) topLoopsUptoCard

/-- THE SECOND FORM's CARD OF 'innkeepertop.TopCopies'. -/
def topCopiesUptoCard : Claim7 := { stood := { row := topCopiesUptoRow, standIns := [], harness := (true, "1ad5bd3beb760c6b15107118fd894621ac1527304abc57f9bdf7c9f4d570632a"), looks := false }, kinds := [], alts := [], laidByText := true, laidKinds := [.data], laidTests := true, laidLooks := .later }
def TopCopiesUptoCardSaid : Prop := Claim7.holds Tryz.pinned (.plain (OpenSpec.upto topCopiesSpec)) topCopiesUptoCard

/-- THE SECOND FORM's CARD OF 'innkeepertop.TopCalls'. -/
def topCallsUptoCard : Claim7 := { stood := { row := topCallsUptoRow, standIns := [], harness := (true, "1ad5bd3beb760c6b15107118fd894621ac1527304abc57f9bdf7c9f4d570632a"), looks := false }, kinds := [], alts := [], laidByText := true, laidKinds := [.data], laidTests := true, laidLooks := .later }
def TopCallsUptoCardSaid : Prop := Claim7.holds Tryz.pinned (.plain (OpenSpec.upto topCallsSpec)) topCallsUptoCard

/-- THE SECOND FORM's CARD OF 'innkeepertop.TopStacks'. -/
def topStacksUptoCard : Claim7 := { stood := { row := topStacksUptoRow, standIns := [], harness := (true, "1ad5bd3beb760c6b15107118fd894621ac1527304abc57f9bdf7c9f4d570632a"), looks := false }, kinds := [], alts := [], laidByText := true, laidKinds := [.data], laidTests := true, laidLooks := .later }
def TopStacksUptoCardSaid : Prop := Claim7.holds Tryz.pinned (.plain (OpenSpec.upto topStacksSpec)) topStacksUptoCard

/-- THE SECOND FORM's CARD OF 'innkeepertop.TopSyscalls'. -/
def topSyscallsUptoCard : Claim7 := { stood := { row := topSyscallsUptoRow, standIns := [], harness := (true, "1ad5bd3beb760c6b15107118fd894621ac1527304abc57f9bdf7c9f4d570632a"), looks := false }, kinds := [], alts := [], laidByText := true, laidKinds := [.data], laidTests := true, laidLooks := .later }
def TopSyscallsUptoCardSaid : Prop := Claim7.holds Tryz.pinned (.plain (OpenSpec.upto topSyscallsSpec)) topSyscallsUptoCard
end Rows
end Go.Proofs.YthmcpmdohmfeiaaGreatDoor
