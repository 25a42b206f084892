/-
  No cell of these rows narrows 'for every input' (looked for: loops, veiled, ifaces, maps, wideKeys, modest, calm, conditions, laid).
  DERIVED. THE GIVEN ROWS OF THIS SEAT. 6 by the template 'for every input the law returns true; each argument reads behind the call as it read before'; 0 by the template 'total and deterministic' (their statements: YtjdhdciijdpghaaTotals.lean).
  GIVEN WITH THE SEED: the statements are not yours to turn. If you find one false, say at which input.
  Laid BY PROGRAM, IN A SANDBOX (cutbox-rows.mjs): the forced cells as the released guide's own fill.sh prints them over the translation 8ab2ef5e05708e21… (all of the seat's roots in one cut). By AI agents, Wed Nov 11 2026. No macro, syntax, notation, axiom, sorry.
-/
import Derived.Test.YtjdhdciijdpghaaChecked
import GoSem.Claim
import GoSem.ClaimJoined
import GoSem.ClaimMapViews
import Derived.JoinedTies
import Derived.KernelRfl
namespace Go.Proofs.Ytjdhdciijdpghaa
/- THE CELL 'sum', in the pinned program and in every row, IS THE sha256 OF THE DUMP (.gsa) THAT YtjdhdciijdpghaaProg.lean LOADS. Nothing in Lean hashes anything: it is a label: what it is worth is what the hold of that sum in a sandbox is worth. -/
noncomputable def Try.pinned : Pinned := { name := "ytjdhdciijdpghaa", sum := "8ab2ef5e05708e219a040b2b60482ac4c43bedbac33102e06a9a3e755106e38a", checked := Try.checked }
namespace Rows
def none {H : Type} : Left H := { results := [], args := [] }

/-- 'innkeeperlaw1.ArithLaws': WHATEVER THE INPUT: true; the input reads as it did. -/
def arithLawsSpec : ChangeSpec := { name := "arithLaws", fn := fun _ => fun
  | [d1, d2] => { results := [.lit (.bool true)], args := [d1, d2] }
  | _ => none }
def arithLawsRow : OpenClaim := { program := "ytjdhdciijdpghaa", sum := "8ab2ef5e05708e219a040b2b60482ac4c43bedbac33102e06a9a3e755106e38a", func := "innkeeper/innkeeperlaw1.ArithLaws", spec := "arithLaws", apart := false }
def ArithLawsSaid : Prop := arithLawsRow.holds Try.pinned (OpenSpec.ofChange arithLawsSpec)

/-- ITS FALSE NEIGHBOUR: 'it returns false'. Refute it at one input. -/
def arithLawsWrong : ChangeSpec := { name := "arithLaws", fn := fun _ => fun
  | [d1, d2] => { results := [.lit (.bool false)], args := [d1, d2] }
  | _ => none }
def ArithLawsWrongFalsely : Prop := arithLawsRow.holds Try.pinned (OpenSpec.ofChange arithLawsWrong)

/-- 'innkeeperlaw1.ArithShifts': WHATEVER THE INPUT: true; the input reads as it did. -/
def arithShiftsSpec : ChangeSpec := { name := "arithShifts", fn := fun _ => fun
  | [d1, d2, d3] => { results := [.lit (.bool true)], args := [d1, d2, d3] }
  | _ => none }
def arithShiftsRow : OpenClaim := { program := "ytjdhdciijdpghaa", sum := "8ab2ef5e05708e219a040b2b60482ac4c43bedbac33102e06a9a3e755106e38a", func := "innkeeper/innkeeperlaw1.ArithShifts", spec := "arithShifts", apart := false }
def ArithShiftsSaid : Prop := arithShiftsRow.holds Try.pinned (OpenSpec.ofChange arithShiftsSpec)

/-- ITS FALSE NEIGHBOUR: 'it returns false'. Refute it at one input. -/
def arithShiftsWrong : ChangeSpec := { name := "arithShifts", fn := fun _ => fun
  | [d1, d2, d3] => { results := [.lit (.bool false)], args := [d1, d2, d3] }
  | _ => none }
def ArithShiftsWrongFalsely : Prop := arithShiftsRow.holds Try.pinned (OpenSpec.ofChange arithShiftsWrong)

/-- 'innkeeperlaw1.ArithFlags': WHATEVER THE INPUT: true; the input reads as it did. -/
def arithFlagsSpec : ChangeSpec := { name := "arithFlags", fn := fun _ => fun
  | [d1, d2, d3] => { results := [.lit (.bool true)], args := [d1, d2, d3] }
  | _ => none }
def arithFlagsRow : OpenClaim := { program := "ytjdhdciijdpghaa", sum := "8ab2ef5e05708e219a040b2b60482ac4c43bedbac33102e06a9a3e755106e38a", func := "innkeeper/innkeeperlaw1.ArithFlags", spec := "arithFlags", apart := false }
def ArithFlagsSaid : Prop := arithFlagsRow.holds Try.pinned (OpenSpec.ofChange arithFlagsSpec)

/-- ITS FALSE NEIGHBOUR: 'it returns false'. Refute it at one input. -/
def arithFlagsWrong : ChangeSpec := { name := "arithFlags", fn := fun _ => fun
  | [d1, d2, d3] => { results := [.lit (.bool false)], args := [d1, d2, d3] }
  | _ => none }
def ArithFlagsWrongFalsely : Prop := arithFlagsRow.holds Try.pinned (OpenSpec.ofChange arithFlagsWrong)

/-- 'innkeeperlaw1.ArithNumbers': WHATEVER THE INPUT: true; the input reads as it did. -/
def arithNumbersSpec : ChangeSpec := { name := "arithNumbers", fn := fun _ => fun
  | [] => { results := [.lit (.bool true)], args := [] }
  | _ => none }
def arithNumbersRow : OpenClaim := { program := "ytjdhdciijdpghaa", sum := "8ab2ef5e05708e219a040b2b60482ac4c43bedbac33102e06a9a3e755106e38a", func := "innkeeper/innkeeperlaw1.ArithNumbers", spec := "arithNumbers", apart := false }
def ArithNumbersSaid : Prop := arithNumbersRow.holds Try.pinned (OpenSpec.ofChange arithNumbersSpec)

/-- ITS FALSE NEIGHBOUR: 'it returns false'. Refute it at one input. -/
def arithNumbersWrong : ChangeSpec := { name := "arithNumbers", fn := fun _ => fun
  | [] => { results := [.lit (.bool false)], args := [] }
  | _ => none }
def ArithNumbersWrongFalsely : Prop := arithNumbersRow.holds Try.pinned (OpenSpec.ofChange arithNumbersWrong)

/-- 'innkeeperlaw1.ArithTells': WHATEVER THE INPUT: true; the input reads as it did. -/
def arithTellsSpec : ChangeSpec := { name := "arithTells", fn := fun _ => fun
  | [d1, d2, d3, d4] => { results := [.lit (.bool true)], args := [d1, d2, d3, d4] }
  | _ => none }
def arithTellsRow : OpenClaim := { program := "ytjdhdciijdpghaa", sum := "8ab2ef5e05708e219a040b2b60482ac4c43bedbac33102e06a9a3e755106e38a", func := "innkeeper/innkeeperlaw1.ArithTells", spec := "arithTells", apart := false }
def ArithTellsSaid : Prop := arithTellsRow.holds Try.pinned (OpenSpec.ofChange arithTellsSpec)

/-- ITS FALSE NEIGHBOUR: 'it returns false'. Refute it at one input. -/
def arithTellsWrong : ChangeSpec := { name := "arithTells", fn := fun _ => fun
  | [d1, d2, d3, d4] => { results := [.lit (.bool false)], args := [d1, d2, d3, d4] }
  | _ => none }
def ArithTellsWrongFalsely : Prop := arithTellsRow.holds Try.pinned (OpenSpec.ofChange arithTellsWrong)

/-- 'innkeeperlaw1.ArithOrders': WHATEVER THE INPUT: true; the input reads as it did. -/
def arithOrdersSpec : ChangeSpec := { name := "arithOrders", fn := fun _ => fun
  | [d1, d2] => { results := [.lit (.bool true)], args := [d1, d2] }
  | _ => none }
def arithOrdersRow : OpenClaim := { program := "ytjdhdciijdpghaa", sum := "8ab2ef5e05708e219a040b2b60482ac4c43bedbac33102e06a9a3e755106e38a", func := "innkeeper/innkeeperlaw1.ArithOrders", spec := "arithOrders", apart := false }
def ArithOrdersSaid : Prop := arithOrdersRow.holds Try.pinned (OpenSpec.ofChange arithOrdersSpec)

/-- ITS FALSE NEIGHBOUR: 'it returns false'. Refute it at one input. -/
def arithOrdersWrong : ChangeSpec := { name := "arithOrders", fn := fun _ => fun
  | [d1, d2] => { results := [.lit (.bool false)], args := [d1, d2] }
  | _ => none }
def ArithOrdersWrongFalsely : Prop := arithOrdersRow.holds Try.pinned (OpenSpec.ofChange arithOrdersWrong)

/- THE SECOND FORM. 'bulk': how many values and letters a reading holds, each counted each time it is reached (what is shared counts as often as it is met; a slice's spare places count too). A statement '..UptoSaid' is the law's where the arguments, and the package variables that the reading takes, are together of bulk at most 1048576: NARROWER than '..Said'. Prove '..Said' where nothing that the law and all that it calls make is longer than what came in: it says more and counts as full. Else prove '..UptoSaid'. A law counts once. -/
mutual
def uptoBulk {H : Type} : DataW H → Nat
  | .lit (.string bytes) => bytes.length + 1
  | .lit _ => 1
  | .nil => 1
  | .ptr d => uptoBulk d + 1
  | .slice elems spare => uptoBulkAll elems + uptoBulkAll spare + 1
  | .agg parts => uptoBulkAll parts + 1
  | .iface _ d => uptoBulk d + 1
  | .map entries => uptoBulkEntries entries + 1
  | .held _ => 1
def uptoBulkAll {H : Type} : List (DataW H) → Nat
  | [] => 0
  | d :: r => uptoBulk d + uptoBulkAll r
def uptoBulkEntries {H : Type} : List (Lit × DataW H) → Nat
  | [] => 0
  | x :: r => uptoBulkEntry x + uptoBulkEntries r
def uptoBulkEntry {H : Type} : Lit × DataW H → Nat
  | (.string bytes, d) => bytes.length + uptoBulk d + 1
  | (_, d) => uptoBulk d + 1
 end
def uptoSmall : (H : Type) → List (DataW H) → Bool := fun _ ds => decide (uptoBulkAll ds ≤ 1048576)
def OpenSpec.upto (s : _root_.Go.ChangeSpec) : _root_.Go.OpenSpec := { _root_.Go.OpenSpec.ofChange s with cond := some uptoSmall }

/-- 'innkeeperlaw1.ArithLaws', WHERE WHAT IT READS IS OF BULK AT MOST 1048576: true; the input reads as it did. -/
def arithLawsUptoRow : OpenClaim := { program := "ytjdhdciijdpghaa", sum := "8ab2ef5e05708e219a040b2b60482ac4c43bedbac33102e06a9a3e755106e38a", func := "innkeeper/innkeeperlaw1.ArithLaws", spec := "arithLaws", apart := false, narrowed := true }
def ArithLawsUptoSaid : Prop := arithLawsUptoRow.holds Try.pinned (OpenSpec.upto arithLawsSpec)

/-- 'innkeeperlaw1.ArithShifts', WHERE WHAT IT READS IS OF BULK AT MOST 1048576: true; the input reads as it did. -/
def arithShiftsUptoRow : OpenClaim := { program := "ytjdhdciijdpghaa", sum := "8ab2ef5e05708e219a040b2b60482ac4c43bedbac33102e06a9a3e755106e38a", func := "innkeeper/innkeeperlaw1.ArithShifts", spec := "arithShifts", apart := false, narrowed := true }
def ArithShiftsUptoSaid : Prop := arithShiftsUptoRow.holds Try.pinned (OpenSpec.upto arithShiftsSpec)

/-- 'innkeeperlaw1.ArithFlags', WHERE WHAT IT READS IS OF BULK AT MOST 1048576: true; the input reads as it did. -/
def arithFlagsUptoRow : OpenClaim := { program := "ytjdhdciijdpghaa", sum := "8ab2ef5e05708e219a040b2b60482ac4c43bedbac33102e06a9a3e755106e38a", func := "innkeeper/innkeeperlaw1.ArithFlags", spec := "arithFlags", apart := false, narrowed := true }
def ArithFlagsUptoSaid : Prop := arithFlagsUptoRow.holds Try.pinned (OpenSpec.upto arithFlagsSpec)

/-- 'innkeeperlaw1.ArithNumbers', WHERE WHAT IT READS IS OF BULK AT MOST 1048576: true; the input reads as it did. -/
def arithNumbersUptoRow : OpenClaim := { program := "ytjdhdciijdpghaa", sum := "8ab2ef5e05708e219a040b2b60482ac4c43bedbac33102e06a9a3e755106e38a", func := "innkeeper/innkeeperlaw1.ArithNumbers", spec := "arithNumbers", apart := false, narrowed := true }
def ArithNumbersUptoSaid : Prop := arithNumbersUptoRow.holds Try.pinned (OpenSpec.upto arithNumbersSpec)

/-- 'innkeeperlaw1.ArithTells', WHERE WHAT IT READS IS OF BULK AT MOST 1048576: true; the input reads as it did. -/
def arithTellsUptoRow : OpenClaim := { program := "ytjdhdciijdpghaa", sum := "8ab2ef5e05708e219a040b2b60482ac4c43bedbac33102e06a9a3e755106e38a", func := "innkeeper/innkeeperlaw1.ArithTells", spec := "arithTells", apart := false, narrowed := true }
def ArithTellsUptoSaid : Prop := arithTellsUptoRow.holds Try.pinned (OpenSpec.upto arithTellsSpec)

/-- 'innkeeperlaw1.ArithOrders', WHERE WHAT IT READS IS OF BULK AT MOST 1048576: true; the input reads as it did. -/
def arithOrdersUptoRow : OpenClaim := { program := "ytjdhdciijdpghaa", sum := "8ab2ef5e05708e219a040b2b60482ac4c43bedbac33102e06a9a3e755106e38a", func := "innkeeper/innkeeperlaw1.ArithOrders", spec := "arithOrders", apart := false, narrowed := true }
def ArithOrdersUptoSaid : Prop := arithOrdersUptoRow.holds Try.pinned (OpenSpec.upto arithOrdersSpec)

end Rows
end Go.Proofs.Ytjdhdciijdpghaa
