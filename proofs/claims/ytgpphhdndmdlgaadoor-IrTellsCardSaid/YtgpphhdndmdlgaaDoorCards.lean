/-
  DERIVED. GIVEN WITH THE SEED: THE CARDS: each row of YtgpphhdndmdlgaaDoorRows.lean that lists a variable, with what it lists TIED to the program's text (the seventh form; the later family's looks); each row that meets fmt, with fmt's text TOLD by the authors' own Lean function (tested against real Go, not proved from fmt's source: count such statements apart). THE CARD IS WHAT COUNTS. Prove the row's statement (the work); the ties are given (YtgpphhdndmdlgaaDoorTie.lean); close each card by the builder's one call (the guide's Derived/Test/ToyasCard.lean, 'card_holds'). Laid BY PROGRAM, IN A SANDBOX (cutbox-door.mjs). By AI agents, Wed Nov 11 2026. No macro, syntax, notation, axiom, sorry.
-/
import Derived.Test.YtgpphhdndmdlgaaDoorRows
import GoSem.ClaimSeven
namespace Go.Proofs.YtgpphhdndmdlgaaDoor
namespace Rows

/-- THE TIED CARD OF 'innkeeperlaw19.IrTells'. -/
def irTellsCard : Claim7 := { stood := { row := irTellsRow, standIns := [], harness := (true, "294f6a696369bd42df83b3262ffec5362ef256078968998de9a47ed4f2d53505"), looks := false }, kinds := [], alts := [], laidByText := true, laidKinds := [.data, .data, .data], laidTests := true, laidLooks := .later }
def IrTellsCardSaid : Prop := Claim7.holds Tryd.pinned (.plain (OpenSpec.ofChange irTellsSpec)) irTellsCard

/-- THE SECOND FORM's CARD OF 'innkeeperlaw19.IrTells'. -/
def irTellsUptoCard : Claim7 := { stood := { row := irTellsUptoRow, standIns := [], harness := (true, "294f6a696369bd42df83b3262ffec5362ef256078968998de9a47ed4f2d53505"), looks := false }, kinds := [], alts := [], laidByText := true, laidKinds := [.data, .data, .data], laidTests := true, laidLooks := .later }
def IrTellsUptoCardSaid : Prop := Claim7.holds Tryd.pinned (.plain (OpenSpec.upto irTellsSpec)) irTellsUptoCard
end Rows
end Go.Proofs.YtgpphhdndmdlgaaDoor
