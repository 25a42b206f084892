/-
  DERIVED. GIVEN WITH THE SEED: THE CARDS: each row of YtndjckfnggnddaaDoorRows.lean that lists a variable, with what it lists TIED to the program's text (the seventh form; the later family's looks); each row that meets fmt, with fmt's text TOLD by the authors' own Lean function (tested against real Go, not proved from fmt's source: count such statements apart). THE CARD IS WHAT COUNTS. Prove the row's statement (the work); the ties are given (YtndjckfnggnddaaDoorTie.lean); close each card by the builder's one call (the guide's Derived/Test/ToyasCard.lean, 'card_holds'). Laid BY PROGRAM, IN A SANDBOX (cutbox-door.mjs). By AI agents, Wed Nov 11 2026. No macro, syntax, notation, axiom, sorry.
-/
import Derived.Test.YtndjckfnggnddaaDoorRows
import GoSem.ClaimSeven
namespace Go.Proofs.YtndjckfnggnddaaDoor
namespace Rows

/-- THE TIED CARD OF 'innkeeperlaw3.HcodeNumbers'. -/
def hcodeNumbersCard : Claim7 := { stood := { row := hcodeNumbersRow, standIns := [], harness := (true, "4eefc32ebd0a9ae767b6471863405b4ec3a34a8ba397a145a35d5b840abec566"), looks := false }, kinds := [], alts := [], laidByText := true, laidKinds := [.data, .data, .data], laidTests := true, laidLooks := .later }
def HcodeNumbersCardSaid : Prop := Claim7.holds Tryd.pinned (.plain (OpenSpec.ofChange hcodeNumbersSpec)) hcodeNumbersCard

/-- THE TIED CARD OF 'innkeeperlaw3.HcodeTells'. -/
def hcodeTellsCard : Claim7 := { stood := { row := hcodeTellsRow, standIns := [], harness := (true, "4eefc32ebd0a9ae767b6471863405b4ec3a34a8ba397a145a35d5b840abec566"), looks := false }, kinds := [], alts := [], laidByText := true, laidKinds := [.data, .data, .data], laidTests := true, laidLooks := .later }
def HcodeTellsCardSaid : Prop := Claim7.holds Tryd.pinned (.plain (OpenSpec.ofChange hcodeTellsSpec)) hcodeTellsCard

/-- THE TIED CARD OF 'innkeeperlaw3.HcodeTexts'. -/
def hcodeTextsCard : Claim7 := { stood := { row := hcodeTextsRow, standIns := [], harness := (true, "4eefc32ebd0a9ae767b6471863405b4ec3a34a8ba397a145a35d5b840abec566"), looks := false }, kinds := [], alts := [], laidByText := true, laidKinds := [.data, .data, .data], laidTests := true, laidLooks := .later }
def HcodeTextsCardSaid : Prop := Claim7.holds Tryd.pinned (.plain (OpenSpec.ofChange hcodeTextsSpec)) hcodeTextsCard

/-- THE SECOND FORM's CARD OF 'innkeeperlaw3.HcodeNumbers'. -/
def hcodeNumbersUptoCard : Claim7 := { stood := { row := hcodeNumbersUptoRow, standIns := [], harness := (true, "4eefc32ebd0a9ae767b6471863405b4ec3a34a8ba397a145a35d5b840abec566"), looks := false }, kinds := [], alts := [], laidByText := true, laidKinds := [.data, .data, .data], laidTests := true, laidLooks := .later }
def HcodeNumbersUptoCardSaid : Prop := Claim7.holds Tryd.pinned (.plain (OpenSpec.upto hcodeNumbersSpec)) hcodeNumbersUptoCard

/-- THE SECOND FORM's CARD OF 'innkeeperlaw3.HcodeTells'. -/
def hcodeTellsUptoCard : Claim7 := { stood := { row := hcodeTellsUptoRow, standIns := [], harness := (true, "4eefc32ebd0a9ae767b6471863405b4ec3a34a8ba397a145a35d5b840abec566"), looks := false }, kinds := [], alts := [], laidByText := true, laidKinds := [.data, .data, .data], laidTests := true, laidLooks := .later }
def HcodeTellsUptoCardSaid : Prop := Claim7.holds Tryd.pinned (.plain (OpenSpec.upto hcodeTellsSpec)) hcodeTellsUptoCard

/-- THE SECOND FORM's CARD OF 'innkeeperlaw3.HcodeTexts'. -/
def hcodeTextsUptoCard : Claim7 := { stood := { row := hcodeTextsUptoRow, standIns := [], harness := (true, "4eefc32ebd0a9ae767b6471863405b4ec3a34a8ba397a145a35d5b840abec566"), looks := false }, kinds := [], alts := [], laidByText := true, laidKinds := [.data, .data, .data], laidTests := true, laidLooks := .later }
def HcodeTextsUptoCardSaid : Prop := Claim7.holds Tryd.pinned (.plain (OpenSpec.upto hcodeTextsSpec)) hcodeTextsUptoCard
end Rows
end Go.Proofs.YtndjckfnggnddaaDoor
