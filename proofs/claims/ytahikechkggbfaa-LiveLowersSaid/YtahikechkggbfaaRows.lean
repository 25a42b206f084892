/-
  No cell of these rows narrows 'for every input' (looked for: loops, veiled, ifaces, maps, wideKeys, modest, calm, conditions, laid).
  DERIVED. THE GIVEN ROWS OF THIS SEAT. 5 by the template 'for every input the law returns true; each argument reads behind the call as it read before'; 0 by the template 'total and deterministic' (their statements: YtahikechkggbfaaTotals.lean).
  GIVEN WITH THE SEED: the statements are not yours to turn. If you find one false, say at which input.
  Laid BY PROGRAM, IN A SANDBOX (cutbox-rows.mjs): the forced cells as the released guide's own fill.sh prints them over the translation 9a573cf3c642e188… (all of the seat's roots in one cut). By AI agents, Wed Nov 11 2026. No macro, syntax, notation, axiom, sorry.
-/
import Derived.Test.YtahikechkggbfaaChecked
import GoSem.Claim
import GoSem.ClaimJoined
import GoSem.ClaimMapViews
import Derived.JoinedTies
import Derived.KernelRfl
namespace Go.Proofs.Ytahikechkggbfaa
/- THE CELL 'sum', in the pinned program and in every row, IS THE sha256 OF THE DUMP (.gsa) THAT YtahikechkggbfaaProg.lean LOADS. Nothing in Lean hashes anything: it is a label: what it is worth is what the hold of that sum in a sandbox is worth. -/
noncomputable def Try.pinned : Pinned := { name := "ytahikechkggbfaa", sum := "9a573cf3c642e188a82527cc629c687ca553dc8dfff2863ec55886da1df9701d", checked := Try.checked }
namespace Rows
def none {H : Type} : Left H := { results := [], args := [] }

/-- 'innkeeperlaw20.LiveNumbers': WHATEVER THE INPUT: true; the input reads as it did. -/
def liveNumbersSpec : ChangeSpec := { name := "liveNumbers", fn := fun _ => fun
  | [] => { results := [.lit (.bool true)], args := [] }
  | _ => none }
def liveNumbersRow : OpenClaim := { program := "ytahikechkggbfaa", sum := "9a573cf3c642e188a82527cc629c687ca553dc8dfff2863ec55886da1df9701d", func := "innkeeper/innkeeperlaw20.LiveNumbers", spec := "liveNumbers", unfollowed := true, recurses := true, apart := false }
def LiveNumbersSaid : Prop := liveNumbersRow.holds Try.pinned (OpenSpec.ofChange liveNumbersSpec)

/-- ITS FALSE NEIGHBOUR: 'it returns false'. Refute it at one input. -/
def liveNumbersWrong : ChangeSpec := { name := "liveNumbers", fn := fun _ => fun
  | [] => { results := [.lit (.bool false)], args := [] }
  | _ => none }
def LiveNumbersWrongFalsely : Prop := liveNumbersRow.holds Try.pinned (OpenSpec.ofChange liveNumbersWrong)

/-- 'innkeeperlaw20.LiveTells': WHATEVER THE INPUT: true; the input reads as it did. -/
def liveTellsSpec : ChangeSpec := { name := "liveTells", fn := fun _ => fun
  | [d1, d2] => { results := [.lit (.bool true)], args := [d1, d2] }
  | _ => none }
def liveTellsRow : OpenClaim := { program := "ytahikechkggbfaa", sum := "9a573cf3c642e188a82527cc629c687ca553dc8dfff2863ec55886da1df9701d", func := "innkeeper/innkeeperlaw20.LiveTells", spec := "liveTells", unfollowed := true, recurses := true, apart := false }
def LiveTellsSaid : Prop := liveTellsRow.holds Try.pinned (OpenSpec.ofChange liveTellsSpec)

/-- ITS FALSE NEIGHBOUR: 'it returns false'. Refute it at one input. -/
def liveTellsWrong : ChangeSpec := { name := "liveTells", fn := fun _ => fun
  | [d1, d2] => { results := [.lit (.bool false)], args := [d1, d2] }
  | _ => none }
def LiveTellsWrongFalsely : Prop := liveTellsRow.holds Try.pinned (OpenSpec.ofChange liveTellsWrong)

/-- 'innkeeperlaw20.LiveMeets': WHATEVER THE INPUT: true; the input reads as it did. -/
def liveMeetsSpec : ChangeSpec := { name := "liveMeets", fn := fun _ => fun
  | [d1, d2] => { results := [.lit (.bool true)], args := [d1, d2] }
  | _ => none }
def liveMeetsRow : OpenClaim := { program := "ytahikechkggbfaa", sum := "9a573cf3c642e188a82527cc629c687ca553dc8dfff2863ec55886da1df9701d", func := "innkeeper/innkeeperlaw20.LiveMeets", spec := "liveMeets", unfollowed := true, recurses := true, apart := false }
def LiveMeetsSaid : Prop := liveMeetsRow.holds Try.pinned (OpenSpec.ofChange liveMeetsSpec)

/-- ITS FALSE NEIGHBOUR: 'it returns false'. Refute it at one input. -/
def liveMeetsWrong : ChangeSpec := { name := "liveMeets", fn := fun _ => fun
  | [d1, d2] => { results := [.lit (.bool false)], args := [d1, d2] }
  | _ => none }
def LiveMeetsWrongFalsely : Prop := liveMeetsRow.holds Try.pinned (OpenSpec.ofChange liveMeetsWrong)

/-- 'innkeeperlaw20.LiveEnds': WHATEVER THE INPUT: true; the input reads as it did. -/
def liveEndsSpec : ChangeSpec := { name := "liveEnds", fn := fun _ => fun
  | [d] => { results := [.lit (.bool true)], args := [d] }
  | _ => none }
def liveEndsRow : OpenClaim := { program := "ytahikechkggbfaa", sum := "9a573cf3c642e188a82527cc629c687ca553dc8dfff2863ec55886da1df9701d", func := "innkeeper/innkeeperlaw20.LiveEnds", spec := "liveEnds", unfollowed := true, recurses := true, apart := false }
def LiveEndsSaid : Prop := liveEndsRow.holds Try.pinned (OpenSpec.ofChange liveEndsSpec)

/-- ITS FALSE NEIGHBOUR: 'it returns false'. Refute it at one input. -/
def liveEndsWrong : ChangeSpec := { name := "liveEnds", fn := fun _ => fun
  | [d] => { results := [.lit (.bool false)], args := [d] }
  | _ => none }
def LiveEndsWrongFalsely : Prop := liveEndsRow.holds Try.pinned (OpenSpec.ofChange liveEndsWrong)

/-- 'innkeeperlaw20.LiveLowers': WHATEVER THE INPUT: true; the input reads as it did. -/
def liveLowersSpec : ChangeSpec := { name := "liveLowers", fn := fun _ => fun
  | [d1, d2] => { results := [.lit (.bool true)], args := [d1, d2] }
  | _ => none }
def liveLowersRow : OpenClaim := { program := "ytahikechkggbfaa", sum := "9a573cf3c642e188a82527cc629c687ca553dc8dfff2863ec55886da1df9701d", func := "innkeeper/innkeeperlaw20.LiveLowers", spec := "liveLowers", unfollowed := true, recurses := true, apart := false }
def LiveLowersSaid : Prop := liveLowersRow.holds Try.pinned (OpenSpec.ofChange liveLowersSpec)

/-- ITS FALSE NEIGHBOUR: 'it returns false'. Refute it at one input. -/
def liveLowersWrong : ChangeSpec := { name := "liveLowers", fn := fun _ => fun
  | [d1, d2] => { results := [.lit (.bool false)], args := [d1, d2] }
  | _ => none }
def LiveLowersWrongFalsely : Prop := liveLowersRow.holds Try.pinned (OpenSpec.ofChange liveLowersWrong)

/- THE SECOND FORM. 'bulk': how many values and letters a reading holds, each counted each time it is reached (what is shared counts as often as it is met; a slice's spare places count too). A statement '..UptoSaid' is the law's where the arguments, and the package variables that the reading takes, are together of bulk at most 1048576: NARROWER than '..Said'. Prove '..Said' where nothing that the law and all that it calls make is longer than what came in: it says more and counts as full. Else prove '..UptoSaid'. A law counts once. -/
mutual
def uptoBulk {H : Type} : DataW H → Nat
  | .lit (.string bytes) => bytes.length + 1
  | .lit _ => 1
  | .nil => 1
  | .ptr d => uptoBulk d + 1
  | .slice elems spare => uptoBulkAll elems + uptoBulkAll spare + 1
  | .agg parts => uptoBulkAll parts + 1
  | .iface _ d => uptoBulk d + 1
  | .map entries => uptoBulkEntries entries + 1
  | .held _ => 1
def uptoBulkAll {H : Type} : List (DataW H) → Nat
  | [] => 0
  | d :: r => uptoBulk d + uptoBulkAll r
def uptoBulkEntries {H : Type} : List (Lit × DataW H) → Nat
  | [] => 0
  | x :: r => uptoBulkEntry x + uptoBulkEntries r
def uptoBulkEntry {H : Type} : Lit × DataW H → Nat
  | (.string bytes, d) => bytes.length + uptoBulk d + 1
  | (_, d) => uptoBulk d + 1
 end
def uptoSmall : (H : Type) → List (DataW H) → Bool := fun _ ds => decide (uptoBulkAll ds ≤ 1048576)
def OpenSpec.upto (s : _root_.Go.ChangeSpec) : _root_.Go.OpenSpec := { _root_.Go.OpenSpec.ofChange s with cond := some uptoSmall }

/-- 'innkeeperlaw20.LiveNumbers', WHERE WHAT IT READS IS OF BULK AT MOST 1048576: true; the input reads as it did. -/
def liveNumbersUptoRow : OpenClaim := { program := "ytahikechkggbfaa", sum := "9a573cf3c642e188a82527cc629c687ca553dc8dfff2863ec55886da1df9701d", func := "innkeeper/innkeeperlaw20.LiveNumbers", spec := "liveNumbers", unfollowed := true, recurses := true, apart := false, narrowed := true }
def LiveNumbersUptoSaid : Prop := liveNumbersUptoRow.holds Try.pinned (OpenSpec.upto liveNumbersSpec)

/-- 'innkeeperlaw20.LiveTells', WHERE WHAT IT READS IS OF BULK AT MOST 1048576: true; the input reads as it did. -/
def liveTellsUptoRow : OpenClaim := { program := "ytahikechkggbfaa", sum := "9a573cf3c642e188a82527cc629c687ca553dc8dfff2863ec55886da1df9701d", func := "innkeeper/innkeeperlaw20.LiveTells", spec := "liveTells", unfollowed := true, recurses := true, apart := false, narrowed := true }
def LiveTellsUptoSaid : Prop := liveTellsUptoRow.holds Try.pinned (OpenSpec.upto liveTellsSpec)

/-- 'innkeeperlaw20.LiveMeets', WHERE WHAT IT READS IS OF BULK AT MOST 1048576: true; the input reads as it did. -/
def liveMeetsUptoRow : OpenClaim := { program := "ytahikechkggbfaa", sum := "9a573cf3c642e188a82527cc629c687ca553dc8dfff2863ec55886da1df9701d", func := "innkeeper/innkeeperlaw20.LiveMeets", spec := "liveMeets", unfollowed := true, recurses := true, apart := false, narrowed := true }
def LiveMeetsUptoSaid : Prop := liveMeetsUptoRow.holds Try.pinned (OpenSpec.upto liveMeetsSpec)

/-- 'innkeeperlaw20.LiveEnds', WHERE WHAT IT READS IS OF BULK AT MOST 1048576: true; the input reads as it did. -/
def liveEndsUptoRow : OpenClaim := { program := "ytahikechkggbfaa", sum := "9a573cf3c642e188a82527cc629c687ca553dc8dfff2863ec55886da1df9701d", func := "innkeeper/innkeeperlaw20.LiveEnds", spec := "liveEnds", unfollowed := true, recurses := true, apart := false, narrowed := true }
def LiveEndsUptoSaid : Prop := liveEndsUptoRow.holds Try.pinned (OpenSpec.upto liveEndsSpec)

/-- 'innkeeperlaw20.LiveLowers', WHERE WHAT IT READS IS OF BULK AT MOST 1048576: true; the input reads as it did. -/
def liveLowersUptoRow : OpenClaim := { program := "ytahikechkggbfaa", sum := "9a573cf3c642e188a82527cc629c687ca553dc8dfff2863ec55886da1df9701d", func := "innkeeper/innkeeperlaw20.LiveLowers", spec := "liveLowers", unfollowed := true, recurses := true, apart := false, narrowed := true }
def LiveLowersUptoSaid : Prop := liveLowersUptoRow.holds Try.pinned (OpenSpec.upto liveLowersSpec)

end Rows
end Go.Proofs.Ytahikechkggbfaa
