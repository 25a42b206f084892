/-
  No cell of these rows narrows 'for every input' (looked for: loops, veiled, ifaces, maps, wideKeys, modest, calm, conditions, laid).
  DERIVED. THE GIVEN ROWS OF THIS SEAT. 4 by the template 'for every input the law returns true; each argument reads behind the call as it read before'; 0 by the template 'total and deterministic' (their statements: YtgpphhdndmdlgaaTotals.lean).
  GIVEN WITH THE SEED: the statements are not yours to turn. If you find one false, say at which input.
  Laid BY PROGRAM, IN A SANDBOX (cutbox-rows.mjs): the forced cells as the released guide's own fill.sh prints them over the translation e29b8feba96a43e1… (all of the seat's roots in one cut). By AI agents, Wed Nov 11 2026. No macro, syntax, notation, axiom, sorry.
-/
import Derived.Test.YtgpphhdndmdlgaaChecked
import GoSem.Claim
import GoSem.ClaimJoined
import GoSem.ClaimMapViews
import Derived.JoinedTies
import Derived.KernelRfl
namespace Go.Proofs.Ytgpphhdndmdlgaa
/- THE CELL 'sum', in the pinned program and in every row, IS THE sha256 OF THE DUMP (.gsa) THAT YtgpphhdndmdlgaaProg.lean LOADS. Nothing in Lean hashes anything: it is a label: what it is worth is what the hold of that sum in a sandbox is worth. -/
noncomputable def Try.pinned : Pinned := { name := "ytgpphhdndmdlgaa", sum := "e29b8feba96a43e1fe9761214b14abdbb2b6c93268268a4c311cc5ce9a1a0682", checked := Try.checked }
namespace Rows
def none {H : Type} : Left H := { results := [], args := [] }

/-- 'innkeeperlaw19.IrLowers': WHATEVER THE INPUT: true; the input reads as it did. -/
def irLowersSpec : ChangeSpec := { name := "irLowers", fn := fun _ => fun
  | [d1, d2, d3, d4, d5] => { results := [.lit (.bool true)], args := [d1, d2, d3, d4, d5] }
  | _ => none }
def irLowersRow : OpenClaim := { program := "ytgpphhdndmdlgaa", sum := "e29b8feba96a43e1fe9761214b14abdbb2b6c93268268a4c311cc5ce9a1a0682", func := "innkeeper/innkeeperlaw19.IrLowers", spec := "irLowers", unfollowed := true, recurses := true, apart := false }
def IrLowersSaid : Prop := irLowersRow.holds Try.pinned (OpenSpec.ofChange irLowersSpec)

/-- ITS FALSE NEIGHBOUR: 'it returns false'. Refute it at one input. -/
def irLowersWrong : ChangeSpec := { name := "irLowers", fn := fun _ => fun
  | [d1, d2, d3, d4, d5] => { results := [.lit (.bool false)], args := [d1, d2, d3, d4, d5] }
  | _ => none }
def IrLowersWrongFalsely : Prop := irLowersRow.holds Try.pinned (OpenSpec.ofChange irLowersWrong)

/-- 'innkeeperlaw19.IrJoins': WHATEVER THE INPUT: true; the input reads as it did. -/
def irJoinsSpec : ChangeSpec := { name := "irJoins", fn := fun _ => fun
  | [d1, d2, d3, d4, d5] => { results := [.lit (.bool true)], args := [d1, d2, d3, d4, d5] }
  | _ => none }
def irJoinsRow : OpenClaim := { program := "ytgpphhdndmdlgaa", sum := "e29b8feba96a43e1fe9761214b14abdbb2b6c93268268a4c311cc5ce9a1a0682", func := "innkeeper/innkeeperlaw19.IrJoins", spec := "irJoins", unfollowed := true, recurses := true, apart := false }
def IrJoinsSaid : Prop := irJoinsRow.holds Try.pinned (OpenSpec.ofChange irJoinsSpec)

/-- ITS FALSE NEIGHBOUR: 'it returns false'. Refute it at one input. -/
def irJoinsWrong : ChangeSpec := { name := "irJoins", fn := fun _ => fun
  | [d1, d2, d3, d4, d5] => { results := [.lit (.bool false)], args := [d1, d2, d3, d4, d5] }
  | _ => none }
def IrJoinsWrongFalsely : Prop := irJoinsRow.holds Try.pinned (OpenSpec.ofChange irJoinsWrong)

/-- 'innkeeperlaw19.IrStays': WHATEVER THE INPUT: true; the input reads as it did. -/
def irStaysSpec : ChangeSpec := { name := "irStays", fn := fun _ => fun
  | [d1, d2] => { results := [.lit (.bool true)], args := [d1, d2] }
  | _ => none }
def irStaysRow : OpenClaim := { program := "ytgpphhdndmdlgaa", sum := "e29b8feba96a43e1fe9761214b14abdbb2b6c93268268a4c311cc5ce9a1a0682", func := "innkeeper/innkeeperlaw19.IrStays", spec := "irStays", unfollowed := true, recurses := true, apart := false }
def IrStaysSaid : Prop := irStaysRow.holds Try.pinned (OpenSpec.ofChange irStaysSpec)

/-- ITS FALSE NEIGHBOUR: 'it returns false'. Refute it at one input. -/
def irStaysWrong : ChangeSpec := { name := "irStays", fn := fun _ => fun
  | [d1, d2] => { results := [.lit (.bool false)], args := [d1, d2] }
  | _ => none }
def IrStaysWrongFalsely : Prop := irStaysRow.holds Try.pinned (OpenSpec.ofChange irStaysWrong)

/-- 'innkeeperlaw19.IrNeeds': WHATEVER THE INPUT: true; the input reads as it did. -/
def irNeedsSpec : ChangeSpec := { name := "irNeeds", fn := fun _ => fun
  | [d1, d2, d3] => { results := [.lit (.bool true)], args := [d1, d2, d3] }
  | _ => none }
def irNeedsRow : OpenClaim := { program := "ytgpphhdndmdlgaa", sum := "e29b8feba96a43e1fe9761214b14abdbb2b6c93268268a4c311cc5ce9a1a0682", func := "innkeeper/innkeeperlaw19.IrNeeds", spec := "irNeeds", unfollowed := true, recurses := true, apart := false }
def IrNeedsSaid : Prop := irNeedsRow.holds Try.pinned (OpenSpec.ofChange irNeedsSpec)

/-- ITS FALSE NEIGHBOUR: 'it returns false'. Refute it at one input. -/
def irNeedsWrong : ChangeSpec := { name := "irNeeds", fn := fun _ => fun
  | [d1, d2, d3] => { results := [.lit (.bool false)], args := [d1, d2, d3] }
  | _ => none }
def IrNeedsWrongFalsely : Prop := irNeedsRow.holds Try.pinned (OpenSpec.ofChange irNeedsWrong)

/- THE SECOND FORM. 'bulk': how many values and letters a reading holds, each counted each time it is reached (what is shared counts as often as it is met; a slice's spare places count too). A statement '..UptoSaid' is the law's where the arguments, and the package variables that the reading takes, are together of bulk at most 1048576: NARROWER than '..Said'. Prove '..Said' where nothing that the law and all that it calls make is longer than what came in: it says more and counts as full. Else prove '..UptoSaid'. A law counts once. -/
mutual
def uptoBulk {H : Type} : DataW H → Nat
  | .lit (.string bytes) => bytes.length + 1
  | .lit _ => 1
  | .nil => 1
  | .ptr d => uptoBulk d + 1
  | .slice elems spare => uptoBulkAll elems + uptoBulkAll spare + 1
  | .agg parts => uptoBulkAll parts + 1
  | .iface _ d => uptoBulk d + 1
  | .map entries => uptoBulkEntries entries + 1
  | .held _ => 1
def uptoBulkAll {H : Type} : List (DataW H) → Nat
  | [] => 0
  | d :: r => uptoBulk d + uptoBulkAll r
def uptoBulkEntries {H : Type} : List (Lit × DataW H) → Nat
  | [] => 0
  | x :: r => uptoBulkEntry x + uptoBulkEntries r
def uptoBulkEntry {H : Type} : Lit × DataW H → Nat
  | (.string bytes, d) => bytes.length + uptoBulk d + 1
  | (_, d) => uptoBulk d + 1
 end
def uptoSmall : (H : Type) → List (DataW H) → Bool := fun _ ds => decide (uptoBulkAll ds ≤ 1048576)
def OpenSpec.upto (s : _root_.Go.ChangeSpec) : _root_.Go.OpenSpec := { _root_.Go.OpenSpec.ofChange s with cond := some uptoSmall }

/-- 'innkeeperlaw19.IrLowers', WHERE WHAT IT READS IS OF BULK AT MOST 1048576: true; the input reads as it did. -/
def irLowersUptoRow : OpenClaim := { program := "ytgpphhdndmdlgaa", sum := "e29b8feba96a43e1fe9761214b14abdbb2b6c93268268a4c311cc5ce9a1a0682", func := "innkeeper/innkeeperlaw19.IrLowers", spec := "irLowers", unfollowed := true, recurses := true, apart := false, narrowed := true }
def IrLowersUptoSaid : Prop := irLowersUptoRow.holds Try.pinned (OpenSpec.upto irLowersSpec)

/-- 'innkeeperlaw19.IrJoins', WHERE WHAT IT READS IS OF BULK AT MOST 1048576: true; the input reads as it did. -/
def irJoinsUptoRow : OpenClaim := { program := "ytgpphhdndmdlgaa", sum := "e29b8feba96a43e1fe9761214b14abdbb2b6c93268268a4c311cc5ce9a1a0682", func := "innkeeper/innkeeperlaw19.IrJoins", spec := "irJoins", unfollowed := true, recurses := true, apart := false, narrowed := true }
def IrJoinsUptoSaid : Prop := irJoinsUptoRow.holds Try.pinned (OpenSpec.upto irJoinsSpec)

/-- 'innkeeperlaw19.IrStays', WHERE WHAT IT READS IS OF BULK AT MOST 1048576: true; the input reads as it did. -/
def irStaysUptoRow : OpenClaim := { program := "ytgpphhdndmdlgaa", sum := "e29b8feba96a43e1fe9761214b14abdbb2b6c93268268a4c311cc5ce9a1a0682", func := "innkeeper/innkeeperlaw19.IrStays", spec := "irStays", unfollowed := true, recurses := true, apart := false, narrowed := true }
def IrStaysUptoSaid : Prop := irStaysUptoRow.holds Try.pinned (OpenSpec.upto irStaysSpec)

/-- 'innkeeperlaw19.IrNeeds', WHERE WHAT IT READS IS OF BULK AT MOST 1048576: true; the input reads as it did. -/
def irNeedsUptoRow : OpenClaim := { program := "ytgpphhdndmdlgaa", sum := "e29b8feba96a43e1fe9761214b14abdbb2b6c93268268a4c311cc5ce9a1a0682", func := "innkeeper/innkeeperlaw19.IrNeeds", spec := "irNeeds", unfollowed := true, recurses := true, apart := false, narrowed := true }
def IrNeedsUptoSaid : Prop := irNeedsUptoRow.holds Try.pinned (OpenSpec.upto irNeedsSpec)

end Rows
end Go.Proofs.Ytgpphhdndmdlgaa
