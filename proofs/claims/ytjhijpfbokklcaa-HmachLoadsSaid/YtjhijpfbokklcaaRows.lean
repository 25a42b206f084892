/-
  No cell of these rows narrows 'for every input' (looked for: loops, veiled, ifaces, maps, wideKeys, modest, calm, conditions, laid).
  DERIVED. THE GIVEN ROWS OF THIS SEAT. 5 by the template 'for every input the law returns true; each argument reads behind the call as it read before'; 0 by the template 'total and deterministic' (their statements: YtjhijpfbokklcaaTotals.lean).
  GIVEN WITH THE SEED: the statements are not yours to turn. If you find one false, say at which input.
  Laid BY PROGRAM, IN A SANDBOX (cutbox-rows.mjs): the forced cells as the released guide's own fill.sh prints them over the translation 39702b2c2675cdd3… (all of the seat's roots in one cut). By AI agents, Wed Nov 11 2026. No macro, syntax, notation, axiom, sorry.
-/
import Derived.Test.YtjhijpfbokklcaaChecked
import GoSem.Claim
import GoSem.ClaimJoined
import GoSem.ClaimMapViews
import Derived.JoinedTies
import Derived.KernelRfl
namespace Go.Proofs.Ytjhijpfbokklcaa
/- THE CELL 'sum', in the pinned program and in every row, IS THE sha256 OF THE DUMP (.gsa) THAT YtjhijpfbokklcaaProg.lean LOADS. Nothing in Lean hashes anything: it is a label: what it is worth is what the hold of that sum in a sandbox is worth. -/
noncomputable def Try.pinned : Pinned := { name := "ytjhijpfbokklcaa", sum := "39702b2c2675cdd3b7037db0978aac66fab2cca8dbbe07048a94cbc1cbf8a677", checked := Try.checked }
namespace Rows
def none {H : Type} : Left H := { results := [], args := [] }

/-- 'innkeeperlaw4.HmachLoads': WHATEVER THE INPUT: true; the input reads as it did. -/
def hmachLoadsSpec : ChangeSpec := { name := "hmachLoads", fn := fun _ => fun
  | [d1, d2, d3] => { results := [.lit (.bool true)], args := [d1, d2, d3] }
  | _ => none }
def hmachLoadsRow : OpenClaim := { program := "ytjhijpfbokklcaa", sum := "39702b2c2675cdd3b7037db0978aac66fab2cca8dbbe07048a94cbc1cbf8a677", func := "innkeeper/innkeeperlaw4.HmachLoads", spec := "hmachLoads", apart := false }
def HmachLoadsSaid : Prop := hmachLoadsRow.holds Try.pinned (OpenSpec.ofChange hmachLoadsSpec)

/-- ITS FALSE NEIGHBOUR: 'it returns false'. Refute it at one input. -/
def hmachLoadsWrong : ChangeSpec := { name := "hmachLoads", fn := fun _ => fun
  | [d1, d2, d3] => { results := [.lit (.bool false)], args := [d1, d2, d3] }
  | _ => none }
def HmachLoadsWrongFalsely : Prop := hmachLoadsRow.holds Try.pinned (OpenSpec.ofChange hmachLoadsWrong)

/-- 'innkeeperlaw4.HmachPieces': WHATEVER THE INPUT: true; the input reads as it did. -/
def hmachPiecesSpec : ChangeSpec := { name := "hmachPieces", fn := fun _ => fun
  | [d1, d2, d3, d4] => { results := [.lit (.bool true)], args := [d1, d2, d3, d4] }
  | _ => none }
def hmachPiecesRow : OpenClaim := { program := "ytjhijpfbokklcaa", sum := "39702b2c2675cdd3b7037db0978aac66fab2cca8dbbe07048a94cbc1cbf8a677", func := "innkeeper/innkeeperlaw4.HmachPieces", spec := "hmachPieces", apart := false }
def HmachPiecesSaid : Prop := hmachPiecesRow.holds Try.pinned (OpenSpec.ofChange hmachPiecesSpec)

/-- ITS FALSE NEIGHBOUR: 'it returns false'. Refute it at one input. -/
def hmachPiecesWrong : ChangeSpec := { name := "hmachPieces", fn := fun _ => fun
  | [d1, d2, d3, d4] => { results := [.lit (.bool false)], args := [d1, d2, d3, d4] }
  | _ => none }
def HmachPiecesWrongFalsely : Prop := hmachPiecesRow.holds Try.pinned (OpenSpec.ofChange hmachPiecesWrong)

/-- 'innkeeperlaw4.HmachStands': WHATEVER THE INPUT: true; the input reads as it did. -/
def hmachStandsSpec : ChangeSpec := { name := "hmachStands", fn := fun _ => fun
  | [d1, d2, d3] => { results := [.lit (.bool true)], args := [d1, d2, d3] }
  | _ => none }
def hmachStandsRow : OpenClaim := { program := "ytjhijpfbokklcaa", sum := "39702b2c2675cdd3b7037db0978aac66fab2cca8dbbe07048a94cbc1cbf8a677", func := "innkeeper/innkeeperlaw4.HmachStands", spec := "hmachStands", apart := false }
def HmachStandsSaid : Prop := hmachStandsRow.holds Try.pinned (OpenSpec.ofChange hmachStandsSpec)

/-- ITS FALSE NEIGHBOUR: 'it returns false'. Refute it at one input. -/
def hmachStandsWrong : ChangeSpec := { name := "hmachStands", fn := fun _ => fun
  | [d1, d2, d3] => { results := [.lit (.bool false)], args := [d1, d2, d3] }
  | _ => none }
def HmachStandsWrongFalsely : Prop := hmachStandsRow.holds Try.pinned (OpenSpec.ofChange hmachStandsWrong)

/-- 'innkeeperlaw4.HmachNumbers': WHATEVER THE INPUT: true; the input reads as it did. -/
def hmachNumbersSpec : ChangeSpec := { name := "hmachNumbers", fn := fun _ => fun
  | [] => { results := [.lit (.bool true)], args := [] }
  | _ => none }
def hmachNumbersRow : OpenClaim := { program := "ytjhijpfbokklcaa", sum := "39702b2c2675cdd3b7037db0978aac66fab2cca8dbbe07048a94cbc1cbf8a677", func := "innkeeper/innkeeperlaw4.HmachNumbers", spec := "hmachNumbers", apart := false }
def HmachNumbersSaid : Prop := hmachNumbersRow.holds Try.pinned (OpenSpec.ofChange hmachNumbersSpec)

/-- ITS FALSE NEIGHBOUR: 'it returns false'. Refute it at one input. -/
def hmachNumbersWrong : ChangeSpec := { name := "hmachNumbers", fn := fun _ => fun
  | [] => { results := [.lit (.bool false)], args := [] }
  | _ => none }
def HmachNumbersWrongFalsely : Prop := hmachNumbersRow.holds Try.pinned (OpenSpec.ofChange hmachNumbersWrong)

/-- 'innkeeperlaw4.HmachPlays': WHATEVER THE INPUT: true; the input reads as it did. -/
def hmachPlaysSpec : ChangeSpec := { name := "hmachPlays", fn := fun _ => fun
  | [d1, d2, d3, d4, d5] => { results := [.lit (.bool true)], args := [d1, d2, d3, d4, d5] }
  | _ => none }
def hmachPlaysRow : OpenClaim := { program := "ytjhijpfbokklcaa", sum := "39702b2c2675cdd3b7037db0978aac66fab2cca8dbbe07048a94cbc1cbf8a677", func := "innkeeper/innkeeperlaw4.HmachPlays", spec := "hmachPlays", apart := false }
def HmachPlaysSaid : Prop := hmachPlaysRow.holds Try.pinned (OpenSpec.ofChange hmachPlaysSpec)

/-- ITS FALSE NEIGHBOUR: 'it returns false'. Refute it at one input. -/
def hmachPlaysWrong : ChangeSpec := { name := "hmachPlays", fn := fun _ => fun
  | [d1, d2, d3, d4, d5] => { results := [.lit (.bool false)], args := [d1, d2, d3, d4, d5] }
  | _ => none }
def HmachPlaysWrongFalsely : Prop := hmachPlaysRow.holds Try.pinned (OpenSpec.ofChange hmachPlaysWrong)

/- THE SECOND FORM. 'bulk': how many values and letters a reading holds, each counted each time it is reached (what is shared counts as often as it is met; a slice's spare places count too). A statement '..UptoSaid' is the law's where the arguments, and the package variables that the reading takes, are together of bulk at most 1048576: NARROWER than '..Said'. Prove '..Said' where nothing that the law and all that it calls make is longer than what came in: it says more and counts as full. Else prove '..UptoSaid'. A law counts once. -/
mutual
def uptoBulk {H : Type} : DataW H → Nat
  | .lit (.string bytes) => bytes.length + 1
  | .lit _ => 1
  | .nil => 1
  | .ptr d => uptoBulk d + 1
  | .slice elems spare => uptoBulkAll elems + uptoBulkAll spare + 1
  | .agg parts => uptoBulkAll parts + 1
  | .iface _ d => uptoBulk d + 1
  | .map entries => uptoBulkEntries entries + 1
  | .held _ => 1
def uptoBulkAll {H : Type} : List (DataW H) → Nat
  | [] => 0
  | d :: r => uptoBulk d + uptoBulkAll r
def uptoBulkEntries {H : Type} : List (Lit × DataW H) → Nat
  | [] => 0
  | x :: r => uptoBulkEntry x + uptoBulkEntries r
def uptoBulkEntry {H : Type} : Lit × DataW H → Nat
  | (.string bytes, d) => bytes.length + uptoBulk d + 1
  | (_, d) => uptoBulk d + 1
 end
def uptoSmall : (H : Type) → List (DataW H) → Bool := fun _ ds => decide (uptoBulkAll ds ≤ 1048576)
def OpenSpec.upto (s : _root_.Go.ChangeSpec) : _root_.Go.OpenSpec := { _root_.Go.OpenSpec.ofChange s with cond := some uptoSmall }

/-- 'innkeeperlaw4.HmachLoads', WHERE WHAT IT READS IS OF BULK AT MOST 1048576: true; the input reads as it did. -/
def hmachLoadsUptoRow : OpenClaim := { program := "ytjhijpfbokklcaa", sum := "39702b2c2675cdd3b7037db0978aac66fab2cca8dbbe07048a94cbc1cbf8a677", func := "innkeeper/innkeeperlaw4.HmachLoads", spec := "hmachLoads", apart := false, narrowed := true }
def HmachLoadsUptoSaid : Prop := hmachLoadsUptoRow.holds Try.pinned (OpenSpec.upto hmachLoadsSpec)

/-- 'innkeeperlaw4.HmachPieces', WHERE WHAT IT READS IS OF BULK AT MOST 1048576: true; the input reads as it did. -/
def hmachPiecesUptoRow : OpenClaim := { program := "ytjhijpfbokklcaa", sum := "39702b2c2675cdd3b7037db0978aac66fab2cca8dbbe07048a94cbc1cbf8a677", func := "innkeeper/innkeeperlaw4.HmachPieces", spec := "hmachPieces", apart := false, narrowed := true }
def HmachPiecesUptoSaid : Prop := hmachPiecesUptoRow.holds Try.pinned (OpenSpec.upto hmachPiecesSpec)

/-- 'innkeeperlaw4.HmachStands', WHERE WHAT IT READS IS OF BULK AT MOST 1048576: true; the input reads as it did. -/
def hmachStandsUptoRow : OpenClaim := { program := "ytjhijpfbokklcaa", sum := "39702b2c2675cdd3b7037db0978aac66fab2cca8dbbe07048a94cbc1cbf8a677", func := "innkeeper/innkeeperlaw4.HmachStands", spec := "hmachStands", apart := false, narrowed := true }
def HmachStandsUptoSaid : Prop := hmachStandsUptoRow.holds Try.pinned (OpenSpec.upto hmachStandsSpec)

/-- 'innkeeperlaw4.HmachNumbers', WHERE WHAT IT READS IS OF BULK AT MOST 1048576: true; the input reads as it did. -/
def hmachNumbersUptoRow : OpenClaim := { program := "ytjhijpfbokklcaa", sum := "39702b2c2675cdd3b7037db0978aac66fab2cca8dbbe07048a94cbc1cbf8a677", func := "innkeeper/innkeeperlaw4.HmachNumbers", spec := "hmachNumbers", apart := false, narrowed := true }
def HmachNumbersUptoSaid : Prop := hmachNumbersUptoRow.holds Try.pinned (OpenSpec.upto hmachNumbersSpec)

/-- 'innkeeperlaw4.HmachPlays', WHERE WHAT IT READS IS OF BULK AT MOST 1048576: true; the input reads as it did. -/
def hmachPlaysUptoRow : OpenClaim := { program := "ytjhijpfbokklcaa", sum := "39702b2c2675cdd3b7037db0978aac66fab2cca8dbbe07048a94cbc1cbf8a677", func := "innkeeper/innkeeperlaw4.HmachPlays", spec := "hmachPlays", apart := false, narrowed := true }
def HmachPlaysUptoSaid : Prop := hmachPlaysUptoRow.holds Try.pinned (OpenSpec.upto hmachPlaysSpec)

end Rows
end Go.Proofs.Ytjhijpfbokklcaa
