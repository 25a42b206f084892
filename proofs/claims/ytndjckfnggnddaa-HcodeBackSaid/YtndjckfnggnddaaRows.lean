/-
  No cell of these rows narrows 'for every input' (looked for: loops, veiled, ifaces, maps, wideKeys, modest, calm, conditions, laid).
  DERIVED. THE GIVEN ROWS OF THIS SEAT. 2 by the template 'for every input the law returns true; each argument reads behind the call as it read before'; 0 by the template 'total and deterministic' (their statements: YtndjckfnggnddaaTotals.lean).
  GIVEN WITH THE SEED: the statements are not yours to turn. If you find one false, say at which input.
  Laid BY PROGRAM, IN A SANDBOX (cutbox-rows.mjs): the forced cells as the released guide's own fill.sh prints them over the translation 3a5f7862b009a33b… (all of the seat's roots in one cut). By AI agents, Wed Nov 11 2026. No macro, syntax, notation, axiom, sorry.
-/
import Derived.Test.YtndjckfnggnddaaChecked
import GoSem.Claim
import GoSem.ClaimJoined
import GoSem.ClaimMapViews
import Derived.JoinedTies
import Derived.KernelRfl
namespace Go.Proofs.Ytndjckfnggnddaa
/- THE CELL 'sum', in the pinned program and in every row, IS THE sha256 OF THE DUMP (.gsa) THAT YtndjckfnggnddaaProg.lean LOADS. Nothing in Lean hashes anything: it is a label: what it is worth is what the hold of that sum in a sandbox is worth. -/
noncomputable def Try.pinned : Pinned := { name := "ytndjckfnggnddaa", sum := "3a5f7862b009a33b3fb97f9fd2d3b3d686f91c34a0611271a2084e394bc07a56", checked := Try.checked }
namespace Rows
def none {H : Type} : Left H := { results := [], args := [] }

/-- 'innkeeperlaw3.HcodeBack': WHATEVER THE INPUT: true; the input reads as it did. -/
def hcodeBackSpec : ChangeSpec := { name := "hcodeBack", fn := fun _ => fun
  | [d1, d2] => { results := [.lit (.bool true)], args := [d1, d2] }
  | _ => none }
def hcodeBackRow : OpenClaim := { program := "ytndjckfnggnddaa", sum := "3a5f7862b009a33b3fb97f9fd2d3b3d686f91c34a0611271a2084e394bc07a56", func := "innkeeper/innkeeperlaw3.HcodeBack", spec := "hcodeBack", apart := false }
def HcodeBackSaid : Prop := hcodeBackRow.holds Try.pinned (OpenSpec.ofChange hcodeBackSpec)

/-- ITS FALSE NEIGHBOUR: 'it returns false'. Refute it at one input. -/
def hcodeBackWrong : ChangeSpec := { name := "hcodeBack", fn := fun _ => fun
  | [d1, d2] => { results := [.lit (.bool false)], args := [d1, d2] }
  | _ => none }
def HcodeBackWrongFalsely : Prop := hcodeBackRow.holds Try.pinned (OpenSpec.ofChange hcodeBackWrong)

/-- 'innkeeperlaw3.HcodeCuts': WHATEVER THE INPUT: true; the input reads as it did. -/
def hcodeCutsSpec : ChangeSpec := { name := "hcodeCuts", fn := fun _ => fun
  | [d1, d2] => { results := [.lit (.bool true)], args := [d1, d2] }
  | _ => none }
def hcodeCutsRow : OpenClaim := { program := "ytndjckfnggnddaa", sum := "3a5f7862b009a33b3fb97f9fd2d3b3d686f91c34a0611271a2084e394bc07a56", func := "innkeeper/innkeeperlaw3.HcodeCuts", spec := "hcodeCuts", apart := false }
def HcodeCutsSaid : Prop := hcodeCutsRow.holds Try.pinned (OpenSpec.ofChange hcodeCutsSpec)

/-- ITS FALSE NEIGHBOUR: 'it returns false'. Refute it at one input. -/
def hcodeCutsWrong : ChangeSpec := { name := "hcodeCuts", fn := fun _ => fun
  | [d1, d2] => { results := [.lit (.bool false)], args := [d1, d2] }
  | _ => none }
def HcodeCutsWrongFalsely : Prop := hcodeCutsRow.holds Try.pinned (OpenSpec.ofChange hcodeCutsWrong)

/- THE SECOND FORM. 'bulk': how many values and letters a reading holds, each counted each time it is reached (what is shared counts as often as it is met; a slice's spare places count too). A statement '..UptoSaid' is the law's where the arguments, and the package variables that the reading takes, are together of bulk at most 1048576: NARROWER than '..Said'. Prove '..Said' where nothing that the law and all that it calls make is longer than what came in: it says more and counts as full. Else prove '..UptoSaid'. A law counts once. -/
mutual
def uptoBulk {H : Type} : DataW H → Nat
  | .lit (.string bytes) => bytes.length + 1
  | .lit _ => 1
  | .nil => 1
  | .ptr d => uptoBulk d + 1
  | .slice elems spare => uptoBulkAll elems + uptoBulkAll spare + 1
  | .agg parts => uptoBulkAll parts + 1
  | .iface _ d => uptoBulk d + 1
  | .map entries => uptoBulkEntries entries + 1
  | .held _ => 1
def uptoBulkAll {H : Type} : List (DataW H) → Nat
  | [] => 0
  | d :: r => uptoBulk d + uptoBulkAll r
def uptoBulkEntries {H : Type} : List (Lit × DataW H) → Nat
  | [] => 0
  | x :: r => uptoBulkEntry x + uptoBulkEntries r
def uptoBulkEntry {H : Type} : Lit × DataW H → Nat
  | (.string bytes, d) => bytes.length + uptoBulk d + 1
  | (_, d) => uptoBulk d + 1
 end
def uptoSmall : (H : Type) → List (DataW H) → Bool := fun _ ds => decide (uptoBulkAll ds ≤ 1048576)
def OpenSpec.upto (s : _root_.Go.ChangeSpec) : _root_.Go.OpenSpec := { _root_.Go.OpenSpec.ofChange s with cond := some uptoSmall }

/-- 'innkeeperlaw3.HcodeBack', WHERE WHAT IT READS IS OF BULK AT MOST 1048576: true; the input reads as it did. -/
def hcodeBackUptoRow : OpenClaim := { program := "ytndjckfnggnddaa", sum := "3a5f7862b009a33b3fb97f9fd2d3b3d686f91c34a0611271a2084e394bc07a56", func := "innkeeper/innkeeperlaw3.HcodeBack", spec := "hcodeBack", apart := false, narrowed := true }
def HcodeBackUptoSaid : Prop := hcodeBackUptoRow.holds Try.pinned (OpenSpec.upto hcodeBackSpec)

/-- 'innkeeperlaw3.HcodeCuts', WHERE WHAT IT READS IS OF BULK AT MOST 1048576: true; the input reads as it did. -/
def hcodeCutsUptoRow : OpenClaim := { program := "ytndjckfnggnddaa", sum := "3a5f7862b009a33b3fb97f9fd2d3b3d686f91c34a0611271a2084e394bc07a56", func := "innkeeper/innkeeperlaw3.HcodeCuts", spec := "hcodeCuts", apart := false, narrowed := true }
def HcodeCutsUptoSaid : Prop := hcodeCutsUptoRow.holds Try.pinned (OpenSpec.upto hcodeCutsSpec)

end Rows
end Go.Proofs.Ytndjckfnggnddaa
