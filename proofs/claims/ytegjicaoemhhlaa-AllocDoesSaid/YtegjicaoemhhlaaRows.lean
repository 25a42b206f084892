/-
  No cell of these rows narrows 'for every input' (looked for: loops, veiled, ifaces, maps, wideKeys, modest, calm, conditions, laid).
  DERIVED. THE GIVEN ROWS OF THIS SEAT. 4 by the template 'for every input the law returns true; each argument reads behind the call as it read before'; 0 by the template 'total and deterministic' (their statements: YtegjicaoemhhlaaTotals.lean).
  GIVEN WITH THE SEED: the statements are not yours to turn. If you find one false, say at which input.
  Laid BY PROGRAM, IN A SANDBOX (cutbox-rows.mjs): the forced cells as the released guide's own fill.sh prints them over the translation 74bc01cb2c193a7c… (all of the seat's roots in one cut). By AI agents, Wed Nov 11 2026. No macro, syntax, notation, axiom, sorry.
-/
import Derived.Test.YtegjicaoemhhlaaChecked
import GoSem.Claim
import GoSem.ClaimJoined
import GoSem.ClaimMapViews
import Derived.JoinedTies
import Derived.KernelRfl
namespace Go.Proofs.Ytegjicaoemhhlaa
/- THE CELL 'sum', in the pinned program and in every row, IS THE sha256 OF THE DUMP (.gsa) THAT YtegjicaoemhhlaaProg.lean LOADS. Nothing in Lean hashes anything: it is a label: what it is worth is what the hold of that sum in a sandbox is worth. -/
noncomputable def Try.pinned : Pinned := { name := "ytegjicaoemhhlaa", sum := "74bc01cb2c193a7cc09cbf17cefa261667adc09c3b224f258655cd7af66cf18f", checked := Try.checked }
namespace Rows
def none {H : Type} : Left H := { results := [], args := [] }

/-- 'innkeeperlaw21.AllocNumbers': WHATEVER THE INPUT: true; the input reads as it did. -/
def allocNumbersSpec : ChangeSpec := { name := "allocNumbers", fn := fun _ => fun
  | [] => { results := [.lit (.bool true)], args := [] }
  | _ => none }
def allocNumbersRow : OpenClaim := { program := "ytegjicaoemhhlaa", sum := "74bc01cb2c193a7cc09cbf17cefa261667adc09c3b224f258655cd7af66cf18f", func := "innkeeper/innkeeperlaw21.AllocNumbers", spec := "allocNumbers", unfollowed := true, recurses := true, apart := false }
def AllocNumbersSaid : Prop := allocNumbersRow.holds Try.pinned (OpenSpec.ofChange allocNumbersSpec)

/-- ITS FALSE NEIGHBOUR: 'it returns false'. Refute it at one input. -/
def allocNumbersWrong : ChangeSpec := { name := "allocNumbers", fn := fun _ => fun
  | [] => { results := [.lit (.bool false)], args := [] }
  | _ => none }
def AllocNumbersWrongFalsely : Prop := allocNumbersRow.holds Try.pinned (OpenSpec.ofChange allocNumbersWrong)

/-- 'innkeeperlaw21.AllocMore': WHATEVER THE INPUT: true; the input reads as it did. -/
def allocMoreSpec : ChangeSpec := { name := "allocMore", fn := fun _ => fun
  | [d1, d2, d3, d4] => { results := [.lit (.bool true)], args := [d1, d2, d3, d4] }
  | _ => none }
def allocMoreRow : OpenClaim := { program := "ytegjicaoemhhlaa", sum := "74bc01cb2c193a7cc09cbf17cefa261667adc09c3b224f258655cd7af66cf18f", func := "innkeeper/innkeeperlaw21.AllocMore", spec := "allocMore", unfollowed := true, recurses := true, apart := false }
def AllocMoreSaid : Prop := allocMoreRow.holds Try.pinned (OpenSpec.ofChange allocMoreSpec)

/-- ITS FALSE NEIGHBOUR: 'it returns false'. Refute it at one input. -/
def allocMoreWrong : ChangeSpec := { name := "allocMore", fn := fun _ => fun
  | [d1, d2, d3, d4] => { results := [.lit (.bool false)], args := [d1, d2, d3, d4] }
  | _ => none }
def AllocMoreWrongFalsely : Prop := allocMoreRow.holds Try.pinned (OpenSpec.ofChange allocMoreWrong)

/-- 'innkeeperlaw21.AllocApart': WHATEVER THE INPUT: true; the input reads as it did. -/
def allocApartSpec : ChangeSpec := { name := "allocApart", fn := fun _ => fun
  | [d1, d2, d3, d4, d5] => { results := [.lit (.bool true)], args := [d1, d2, d3, d4, d5] }
  | _ => none }
def allocApartRow : OpenClaim := { program := "ytegjicaoemhhlaa", sum := "74bc01cb2c193a7cc09cbf17cefa261667adc09c3b224f258655cd7af66cf18f", func := "innkeeper/innkeeperlaw21.AllocApart", spec := "allocApart", unfollowed := true, recurses := true, apart := false }
def AllocApartSaid : Prop := allocApartRow.holds Try.pinned (OpenSpec.ofChange allocApartSpec)

/-- ITS FALSE NEIGHBOUR: 'it returns false'. Refute it at one input. -/
def allocApartWrong : ChangeSpec := { name := "allocApart", fn := fun _ => fun
  | [d1, d2, d3, d4, d5] => { results := [.lit (.bool false)], args := [d1, d2, d3, d4, d5] }
  | _ => none }
def AllocApartWrongFalsely : Prop := allocApartRow.holds Try.pinned (OpenSpec.ofChange allocApartWrong)

/-- 'innkeeperlaw21.AllocDoes': WHATEVER THE INPUT: true; the input reads as it did. -/
def allocDoesSpec : ChangeSpec := { name := "allocDoes", fn := fun _ => fun
  | [d1, d2, d3, d4, d5, d6, d7] => { results := [.lit (.bool true)], args := [d1, d2, d3, d4, d5, d6, d7] }
  | _ => none }
def allocDoesRow : OpenClaim := { program := "ytegjicaoemhhlaa", sum := "74bc01cb2c193a7cc09cbf17cefa261667adc09c3b224f258655cd7af66cf18f", func := "innkeeper/innkeeperlaw21.AllocDoes", spec := "allocDoes", unfollowed := true, recurses := true, apart := false }
def AllocDoesSaid : Prop := allocDoesRow.holds Try.pinned (OpenSpec.ofChange allocDoesSpec)

/-- ITS FALSE NEIGHBOUR: 'it returns false'. Refute it at one input. -/
def allocDoesWrong : ChangeSpec := { name := "allocDoes", fn := fun _ => fun
  | [d1, d2, d3, d4, d5, d6, d7] => { results := [.lit (.bool false)], args := [d1, d2, d3, d4, d5, d6, d7] }
  | _ => none }
def AllocDoesWrongFalsely : Prop := allocDoesRow.holds Try.pinned (OpenSpec.ofChange allocDoesWrong)

/- THE SECOND FORM. 'bulk': how many values and letters a reading holds, each counted each time it is reached (what is shared counts as often as it is met; a slice's spare places count too). A statement '..UptoSaid' is the law's where the arguments, and the package variables that the reading takes, are together of bulk at most 1048576: NARROWER than '..Said'. Prove '..Said' where nothing that the law and all that it calls make is longer than what came in: it says more and counts as full. Else prove '..UptoSaid'. A law counts once. -/
mutual
def uptoBulk {H : Type} : DataW H → Nat
  | .lit (.string bytes) => bytes.length + 1
  | .lit _ => 1
  | .nil => 1
  | .ptr d => uptoBulk d + 1
  | .slice elems spare => uptoBulkAll elems + uptoBulkAll spare + 1
  | .agg parts => uptoBulkAll parts + 1
  | .iface _ d => uptoBulk d + 1
  | .map entries => uptoBulkEntries entries + 1
  | .held _ => 1
def uptoBulkAll {H : Type} : List (DataW H) → Nat
  | [] => 0
  | d :: r => uptoBulk d + uptoBulkAll r
def uptoBulkEntries {H : Type} : List (Lit × DataW H) → Nat
  | [] => 0
  | x :: r => uptoBulkEntry x + uptoBulkEntries r
def uptoBulkEntry {H : Type} : Lit × DataW H → Nat
  | (.string bytes, d) => bytes.length + uptoBulk d + 1
  | (_, d) => uptoBulk d + 1
 end
def uptoSmall : (H : Type) → List (DataW H) → Bool := fun _ ds => decide (uptoBulkAll ds ≤ 1048576)
def OpenSpec.upto (s : _root_.Go.ChangeSpec) : _root_.Go.OpenSpec := { _root_.Go.OpenSpec.ofChange s with cond := some uptoSmall }

/-- 'innkeeperlaw21.AllocNumbers', WHERE WHAT IT READS IS OF BULK AT MOST 1048576: true; the input reads as it did. -/
def allocNumbersUptoRow : OpenClaim := { program := "ytegjicaoemhhlaa", sum := "74bc01cb2c193a7cc09cbf17cefa261667adc09c3b224f258655cd7af66cf18f", func := "innkeeper/innkeeperlaw21.AllocNumbers", spec := "allocNumbers", unfollowed := true, recurses := true, apart := false, narrowed := true }
def AllocNumbersUptoSaid : Prop := allocNumbersUptoRow.holds Try.pinned (OpenSpec.upto allocNumbersSpec)

/-- 'innkeeperlaw21.AllocMore', WHERE WHAT IT READS IS OF BULK AT MOST 1048576: true; the input reads as it did. -/
def allocMoreUptoRow : OpenClaim := { program := "ytegjicaoemhhlaa", sum := "74bc01cb2c193a7cc09cbf17cefa261667adc09c3b224f258655cd7af66cf18f", func := "innkeeper/innkeeperlaw21.AllocMore", spec := "allocMore", unfollowed := true, recurses := true, apart := false, narrowed := true }
def AllocMoreUptoSaid : Prop := allocMoreUptoRow.holds Try.pinned (OpenSpec.upto allocMoreSpec)

/-- 'innkeeperlaw21.AllocApart', WHERE WHAT IT READS IS OF BULK AT MOST 1048576: true; the input reads as it did. -/
def allocApartUptoRow : OpenClaim := { program := "ytegjicaoemhhlaa", sum := "74bc01cb2c193a7cc09cbf17cefa261667adc09c3b224f258655cd7af66cf18f", func := "innkeeper/innkeeperlaw21.AllocApart", spec := "allocApart", unfollowed := true, recurses := true, apart := false, narrowed := true }
def AllocApartUptoSaid : Prop := allocApartUptoRow.holds Try.pinned (OpenSpec.upto allocApartSpec)

/-- 'innkeeperlaw21.AllocDoes', WHERE WHAT IT READS IS OF BULK AT MOST 1048576: true; the input reads as it did. -/
def allocDoesUptoRow : OpenClaim := { program := "ytegjicaoemhhlaa", sum := "74bc01cb2c193a7cc09cbf17cefa261667adc09c3b224f258655cd7af66cf18f", func := "innkeeper/innkeeperlaw21.AllocDoes", spec := "allocDoes", unfollowed := true, recurses := true, apart := false, narrowed := true }
def AllocDoesUptoSaid : Prop := allocDoesUptoRow.holds Try.pinned (OpenSpec.upto allocDoesSpec)

end Rows
end Go.Proofs.Ytegjicaoemhhlaa
