/-
  No cell of these rows narrows 'for every input' (looked for: loops, veiled, ifaces, maps, wideKeys, modest, calm, conditions, laid).
  DERIVED. THE GIVEN ROWS OF THIS SEAT. 4 by the template 'for every input the law returns true; each argument reads behind the call as it read before'; 0 by the template 'total and deterministic' (their statements: YtihacfclecanjaaTotals.lean).
  GIVEN WITH THE SEED: the statements are not yours to turn. If you find one false, say at which input.
  Laid BY PROGRAM, IN A SANDBOX (cutbox-rows.mjs): the forced cells as the released guide's own fill.sh prints them over the translation 90b28936859d2308… (all of the seat's roots in one cut). By AI agents, Wed Nov 11 2026. No macro, syntax, notation, axiom, sorry.
-/
import Derived.Test.YtihacfclecanjaaChecked
import GoSem.Claim
import GoSem.ClaimJoined
import GoSem.ClaimMapViews
import Derived.JoinedTies
import Derived.KernelRfl
namespace Go.Proofs.Ytihacfclecanjaa
/- THE CELL 'sum', in the pinned program and in every row, IS THE sha256 OF THE DUMP (.gsa) THAT YtihacfclecanjaaProg.lean LOADS. Nothing in Lean hashes anything: it is a label: what it is worth is what the hold of that sum in a sandbox is worth. -/
noncomputable def Try.pinned : Pinned := { name := "ytihacfclecanjaa", sum := "90b28936859d23087e3637b1d8d56ac9a0ca80b41fdcc5c8e52220cdfa38382f", checked := Try.checked }
namespace Rows
def none {H : Type} : Left H := { results := [], args := [] }

/-- 'innkeeperlaw22.EmitNumbers': WHATEVER THE INPUT: true; the input reads as it did. -/
def emitNumbersSpec : ChangeSpec := { name := "emitNumbers", fn := fun _ => fun
  | [] => { results := [.lit (.bool true)], args := [] }
  | _ => none }
def emitNumbersRow : OpenClaim := { program := "ytihacfclecanjaa", sum := "90b28936859d23087e3637b1d8d56ac9a0ca80b41fdcc5c8e52220cdfa38382f", func := "innkeeper/innkeeperlaw22.EmitNumbers", spec := "emitNumbers", unfollowed := true, recurses := true, apart := false }
def EmitNumbersSaid : Prop := emitNumbersRow.holds Try.pinned (OpenSpec.ofChange emitNumbersSpec)

/-- ITS FALSE NEIGHBOUR: 'it returns false'. Refute it at one input. -/
def emitNumbersWrong : ChangeSpec := { name := "emitNumbers", fn := fun _ => fun
  | [] => { results := [.lit (.bool false)], args := [] }
  | _ => none }
def EmitNumbersWrongFalsely : Prop := emitNumbersRow.holds Try.pinned (OpenSpec.ofChange emitNumbersWrong)

/-- 'innkeeperlaw22.EmitPuts': WHATEVER THE INPUT: true; the input reads as it did. -/
def emitPutsSpec : ChangeSpec := { name := "emitPuts", fn := fun _ => fun
  | [d1, d2, d3] => { results := [.lit (.bool true)], args := [d1, d2, d3] }
  | _ => none }
def emitPutsRow : OpenClaim := { program := "ytihacfclecanjaa", sum := "90b28936859d23087e3637b1d8d56ac9a0ca80b41fdcc5c8e52220cdfa38382f", func := "innkeeper/innkeeperlaw22.EmitPuts", spec := "emitPuts", unfollowed := true, recurses := true, apart := false }
def EmitPutsSaid : Prop := emitPutsRow.holds Try.pinned (OpenSpec.ofChange emitPutsSpec)

/-- ITS FALSE NEIGHBOUR: 'it returns false'. Refute it at one input. -/
def emitPutsWrong : ChangeSpec := { name := "emitPuts", fn := fun _ => fun
  | [d1, d2, d3] => { results := [.lit (.bool false)], args := [d1, d2, d3] }
  | _ => none }
def EmitPutsWrongFalsely : Prop := emitPutsRow.holds Try.pinned (OpenSpec.ofChange emitPutsWrong)

/-- 'innkeeperlaw22.EmitEnds': WHATEVER THE INPUT: true; the input reads as it did. -/
def emitEndsSpec : ChangeSpec := { name := "emitEnds", fn := fun _ => fun
  | [d1, d2, d3, d4, d5, d6] => { results := [.lit (.bool true)], args := [d1, d2, d3, d4, d5, d6] }
  | _ => none }
def emitEndsRow : OpenClaim := { program := "ytihacfclecanjaa", sum := "90b28936859d23087e3637b1d8d56ac9a0ca80b41fdcc5c8e52220cdfa38382f", func := "innkeeper/innkeeperlaw22.EmitEnds", spec := "emitEnds", unfollowed := true, recurses := true, apart := false }
def EmitEndsSaid : Prop := emitEndsRow.holds Try.pinned (OpenSpec.ofChange emitEndsSpec)

/-- ITS FALSE NEIGHBOUR: 'it returns false'. Refute it at one input. -/
def emitEndsWrong : ChangeSpec := { name := "emitEnds", fn := fun _ => fun
  | [d1, d2, d3, d4, d5, d6] => { results := [.lit (.bool false)], args := [d1, d2, d3, d4, d5, d6] }
  | _ => none }
def EmitEndsWrongFalsely : Prop := emitEndsRow.holds Try.pinned (OpenSpec.ofChange emitEndsWrong)

/-- 'innkeeperlaw22.EmitAgain': WHATEVER THE INPUT: true; the input reads as it did. -/
def emitAgainSpec : ChangeSpec := { name := "emitAgain", fn := fun _ => fun
  | [d1, d2, d3, d4] => { results := [.lit (.bool true)], args := [d1, d2, d3, d4] }
  | _ => none }
def emitAgainRow : OpenClaim := { program := "ytihacfclecanjaa", sum := "90b28936859d23087e3637b1d8d56ac9a0ca80b41fdcc5c8e52220cdfa38382f", func := "innkeeper/innkeeperlaw22.EmitAgain", spec := "emitAgain", unfollowed := true, recurses := true, apart := false }
def EmitAgainSaid : Prop := emitAgainRow.holds Try.pinned (OpenSpec.ofChange emitAgainSpec)

/-- ITS FALSE NEIGHBOUR: 'it returns false'. Refute it at one input. -/
def emitAgainWrong : ChangeSpec := { name := "emitAgain", fn := fun _ => fun
  | [d1, d2, d3, d4] => { results := [.lit (.bool false)], args := [d1, d2, d3, d4] }
  | _ => none }
def EmitAgainWrongFalsely : Prop := emitAgainRow.holds Try.pinned (OpenSpec.ofChange emitAgainWrong)

/- THE SECOND FORM. 'bulk': how many values and letters a reading holds, each counted each time it is reached (what is shared counts as often as it is met; a slice's spare places count too). A statement '..UptoSaid' is the law's where the arguments, and the package variables that the reading takes, are together of bulk at most 1048576: NARROWER than '..Said'. Prove '..Said' where nothing that the law and all that it calls make is longer than what came in: it says more and counts as full. Else prove '..UptoSaid'. A law counts once. -/
mutual
def uptoBulk {H : Type} : DataW H → Nat
  | .lit (.string bytes) => bytes.length + 1
  | .lit _ => 1
  | .nil => 1
  | .ptr d => uptoBulk d + 1
  | .slice elems spare => uptoBulkAll elems + uptoBulkAll spare + 1
  | .agg parts => uptoBulkAll parts + 1
  | .iface _ d => uptoBulk d + 1
  | .map entries => uptoBulkEntries entries + 1
  | .held _ => 1
def uptoBulkAll {H : Type} : List (DataW H) → Nat
  | [] => 0
  | d :: r => uptoBulk d + uptoBulkAll r
def uptoBulkEntries {H : Type} : List (Lit × DataW H) → Nat
  | [] => 0
  | x :: r => uptoBulkEntry x + uptoBulkEntries r
def uptoBulkEntry {H : Type} : Lit × DataW H → Nat
  | (.string bytes, d) => bytes.length + uptoBulk d + 1
  | (_, d) => uptoBulk d + 1
 end
def uptoSmall : (H : Type) → List (DataW H) → Bool := fun _ ds => decide (uptoBulkAll ds ≤ 1048576)
def OpenSpec.upto (s : _root_.Go.ChangeSpec) : _root_.Go.OpenSpec := { _root_.Go.OpenSpec.ofChange s with cond := some uptoSmall }

/-- 'innkeeperlaw22.EmitNumbers', WHERE WHAT IT READS IS OF BULK AT MOST 1048576: true; the input reads as it did. -/
def emitNumbersUptoRow : OpenClaim := { program := "ytihacfclecanjaa", sum := "90b28936859d23087e3637b1d8d56ac9a0ca80b41fdcc5c8e52220cdfa38382f", func := "innkeeper/innkeeperlaw22.EmitNumbers", spec := "emitNumbers", unfollowed := true, recurses := true, apart := false, narrowed := true }
def EmitNumbersUptoSaid : Prop := emitNumbersUptoRow.holds Try.pinned (OpenSpec.upto emitNumbersSpec)

/-- 'innkeeperlaw22.EmitPuts', WHERE WHAT IT READS IS OF BULK AT MOST 1048576: true; the input reads as it did. -/
def emitPutsUptoRow : OpenClaim := { program := "ytihacfclecanjaa", sum := "90b28936859d23087e3637b1d8d56ac9a0ca80b41fdcc5c8e52220cdfa38382f", func := "innkeeper/innkeeperlaw22.EmitPuts", spec := "emitPuts", unfollowed := true, recurses := true, apart := false, narrowed := true }
def EmitPutsUptoSaid : Prop := emitPutsUptoRow.holds Try.pinned (OpenSpec.upto emitPutsSpec)

/-- 'innkeeperlaw22.EmitEnds', WHERE WHAT IT READS IS OF BULK AT MOST 1048576: true; the input reads as it did. -/
def emitEndsUptoRow : OpenClaim := { program := "ytihacfclecanjaa", sum := "90b28936859d23087e3637b1d8d56ac9a0ca80b41fdcc5c8e52220cdfa38382f", func := "innkeeper/innkeeperlaw22.EmitEnds", spec := "emitEnds", unfollowed := true, recurses := true, apart := false, narrowed := true }
def EmitEndsUptoSaid : Prop := emitEndsUptoRow.holds Try.pinned (OpenSpec.upto emitEndsSpec)

/-- 'innkeeperlaw22.EmitAgain', WHERE WHAT IT READS IS OF BULK AT MOST 1048576: true; the input reads as it did. -/
def emitAgainUptoRow : OpenClaim := { program := "ytihacfclecanjaa", sum := "90b28936859d23087e3637b1d8d56ac9a0ca80b41fdcc5c8e52220cdfa38382f", func := "innkeeper/innkeeperlaw22.EmitAgain", spec := "emitAgain", unfollowed := true, recurses := true, apart := false, narrowed := true }
def EmitAgainUptoSaid : Prop := emitAgainUptoRow.holds Try.pinned (OpenSpec.upto emitAgainSpec)

end Rows
end Go.Proofs.Ytihacfclecanjaa
