/-
  DERIVED. GIVEN WITH THE SEED: THE CARDS: each row of YtpfmmckbfejfnaaDoorRows.lean that lists a variable, with what it lists TIED to the program's text (the seventh form; the later family's looks); each row that meets fmt, with fmt's text TOLD by the authors' own Lean function (tested against real Go, not proved from fmt's source: count such statements apart). THE CARD IS WHAT COUNTS. Prove the row's statement (the work); the ties are given (YtpfmmckbfejfnaaDoorTie.lean); close each card by the builder's one call (the guide's Derived/Test/ToyasCard.lean, 'card_holds'). Laid BY PROGRAM, IN A SANDBOX (cutbox-door.mjs). By AI agents, Wed Nov 11 2026. No macro, syntax, notation, axiom, sorry.
-/
import Derived.Test.YtpfmmckbfejfnaaDoorRows
import GoSem.ClaimSeven
namespace Go.Proofs.YtpfmmckbfejfnaaDoor
namespace Rows

/-- THE TIED CARD OF 'innkeeperlaw2.GcodeNumbers'. -/
def gcodeNumbersCard : Claim7 := { stood := { row := gcodeNumbersRow, standIns := [], harness := (true, "88aefd3e5c890b97d30bdf8d9f16e6dd54b90f88f5e187cd80b37137c2cdb4da"), looks := false }, kinds := [], alts := [], laidByText := true, laidKinds := [.data, .data, .data], laidTests := true, laidLooks := .later }
def GcodeNumbersCardSaid : Prop := Claim7.holds Tryd.pinned (.plain (OpenSpec.ofChange gcodeNumbersSpec)) gcodeNumbersCard

/-- THE TIED CARD OF 'innkeeperlaw2.GcodeTells'. -/
def gcodeTellsCard : Claim7 := { stood := { row := gcodeTellsRow, standIns := [], harness := (true, "88aefd3e5c890b97d30bdf8d9f16e6dd54b90f88f5e187cd80b37137c2cdb4da"), looks := false }, kinds := [], alts := [], laidByText := true, laidKinds := [.data, .data, .data], laidTests := true, laidLooks := .later }
def GcodeTellsCardSaid : Prop := Claim7.holds Tryd.pinned (.plain (OpenSpec.ofChange gcodeTellsSpec)) gcodeTellsCard

/-- THE TIED CARD OF 'innkeeperlaw2.GcodeKinds'. -/
def gcodeKindsCard : Claim7 := { stood := { row := gcodeKindsRow, standIns := [], harness := (true, "88aefd3e5c890b97d30bdf8d9f16e6dd54b90f88f5e187cd80b37137c2cdb4da"), looks := false }, kinds := [], alts := [], laidByText := true, laidKinds := [.data, .data, .data], laidTests := true, laidLooks := .later }
def GcodeKindsCardSaid : Prop := Claim7.holds Tryd.pinned (.plain (OpenSpec.ofChange gcodeKindsSpec)) gcodeKindsCard

/-- THE TIED CARD OF 'innkeeperlaw2.GcodeBack'. -/
def gcodeBackCard : Claim7 := { stood := { row := gcodeBackRow, standIns := [], harness := (true, "88aefd3e5c890b97d30bdf8d9f16e6dd54b90f88f5e187cd80b37137c2cdb4da"), looks := false }, kinds := [], alts := [], laidByText := true, laidKinds := [.data, .data, .data], laidTests := true, laidLooks := .later }
def GcodeBackCardSaid : Prop := Claim7.holds Tryd.pinned (.plain (OpenSpec.ofChange gcodeBackSpec)) gcodeBackCard

/-- THE TIED CARD OF 'innkeeperlaw2.GcodeAny'. -/
def gcodeAnyCard : Claim7 := { stood := { row := gcodeAnyRow, standIns := [], harness := (true, "88aefd3e5c890b97d30bdf8d9f16e6dd54b90f88f5e187cd80b37137c2cdb4da"), looks := false }, kinds := [], alts := [], laidByText := true, laidKinds := [.data, .data, .data], laidTests := true, laidLooks := .later }
def GcodeAnyCardSaid : Prop := Claim7.holds Tryd.pinned (.plain (OpenSpec.ofChange gcodeAnySpec)) gcodeAnyCard

/-- THE TIED CARD OF 'innkeeperlaw2.GcodeCuts'. -/
def gcodeCutsCard : Claim7 := { stood := { row := gcodeCutsRow, standIns := [], harness := (true, "88aefd3e5c890b97d30bdf8d9f16e6dd54b90f88f5e187cd80b37137c2cdb4da"), looks := false }, kinds := [], alts := [], laidByText := true, laidKinds := [.data, .data, .data], laidTests := true, laidLooks := .later }
def GcodeCutsCardSaid : Prop := Claim7.holds Tryd.pinned (.plain (OpenSpec.ofChange gcodeCutsSpec)) gcodeCutsCard

/-- THE SECOND FORM's CARD OF 'innkeeperlaw2.GcodeNumbers'. -/
def gcodeNumbersUptoCard : Claim7 := { stood := { row := gcodeNumbersUptoRow, standIns := [], harness := (true, "88aefd3e5c890b97d30bdf8d9f16e6dd54b90f88f5e187cd80b37137c2cdb4da"), looks := false }, kinds := [], alts := [], laidByText := true, laidKinds := [.data, .data, .data], laidTests := true, laidLooks := .later }
def GcodeNumbersUptoCardSaid : Prop := Claim7.holds Tryd.pinned (.plain (OpenSpec.upto gcodeNumbersSpec)) gcodeNumbersUptoCard

/-- THE SECOND FORM's CARD OF 'innkeeperlaw2.GcodeTells'. -/
def gcodeTellsUptoCard : Claim7 := { stood := { row := gcodeTellsUptoRow, standIns := [], harness := (true, "88aefd3e5c890b97d30bdf8d9f16e6dd54b90f88f5e187cd80b37137c2cdb4da"), looks := false }, kinds := [], alts := [], laidByText := true, laidKinds := [.data, .data, .data], laidTests := true, laidLooks := .later }
def GcodeTellsUptoCardSaid : Prop := Claim7.holds Tryd.pinned (.plain (OpenSpec.upto gcodeTellsSpec)) gcodeTellsUptoCard

/-- THE SECOND FORM's CARD OF 'innkeeperlaw2.GcodeKinds'. -/
def gcodeKindsUptoCard : Claim7 := { stood := { row := gcodeKindsUptoRow, standIns := [], harness := (true, "88aefd3e5c890b97d30bdf8d9f16e6dd54b90f88f5e187cd80b37137c2cdb4da"), looks := false }, kinds := [], alts := [], laidByText := true, laidKinds := [.data, .data, .data], laidTests := true, laidLooks := .later }
def GcodeKindsUptoCardSaid : Prop := Claim7.holds Tryd.pinned (.plain (OpenSpec.upto gcodeKindsSpec)) gcodeKindsUptoCard

/-- THE SECOND FORM's CARD OF 'innkeeperlaw2.GcodeBack'. -/
def gcodeBackUptoCard : Claim7 := { stood := { row := gcodeBackUptoRow, standIns := [], harness := (true, "88aefd3e5c890b97d30bdf8d9f16e6dd54b90f88f5e187cd80b37137c2cdb4da"), looks := false }, kinds := [], alts := [], laidByText := true, laidKinds := [.data, .data, .data], laidTests := true, laidLooks := .later }
def GcodeBackUptoCardSaid : Prop := Claim7.holds Tryd.pinned (.plain (OpenSpec.upto gcodeBackSpec)) gcodeBackUptoCard

/-- THE SECOND FORM's CARD OF 'innkeeperlaw2.GcodeAny'. -/
def gcodeAnyUptoCard : Claim7 := { stood := { row := gcodeAnyUptoRow, standIns := [], harness := (true, "88aefd3e5c890b97d30bdf8d9f16e6dd54b90f88f5e187cd80b37137c2cdb4da"), looks := false }, kinds := [], alts := [], laidByText := true, laidKinds := [.data, .data, .data], laidTests := true, laidLooks := .later }
def GcodeAnyUptoCardSaid : Prop := Claim7.holds Tryd.pinned (.plain (OpenSpec.upto gcodeAnySpec)) gcodeAnyUptoCard

/-- THE SECOND FORM's CARD OF 'innkeeperlaw2.GcodeCuts'. -/
def gcodeCutsUptoCard : Claim7 := { stood := { row := gcodeCutsUptoRow, standIns := [], harness := (true, "88aefd3e5c890b97d30bdf8d9f16e6dd54b90f88f5e187cd80b37137c2cdb4da"), looks := false }, kinds := [], alts := [], laidByText := true, laidKinds := [.data, .data, .data], laidTests := true, laidLooks := .later }
def GcodeCutsUptoCardSaid : Prop := Claim7.holds Tryd.pinned (.plain (OpenSpec.upto gcodeCutsSpec)) gcodeCutsUptoCard
end Rows
end Go.Proofs.YtpfmmckbfejfnaaDoor
