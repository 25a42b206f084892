/-
  NARROWER THAN 'FOR EVERY INPUT', by the rows' own cells (each row's printed sentence says how): TopTraps: laid · TopSelf: laid · TopDrive: laid · TopPaging: laid · TopTimer: laid · TopUsers: laid · TopRuns: laid · TopLoops: laid · TopCopies: laid · TopCalls: laid · TopStacks: laid · TopSyscalls: laid.
  DERIVED. THE GIVEN ROWS OF THIS SEAT. 12 by the template 'for every input the law returns true; each argument reads behind the call as it read before'; 0 by the template 'total and deterministic' (their statements: YthmcpmdohmfeiaaGreatDoorTotals.lean).
  GIVEN WITH THE SEED: the statements are not yours to turn. If you find one false, say at which input.
  Laid BY PROGRAM, IN A SANDBOX (cutbox-rows.mjs): the forced cells as the released guide's own fill.sh prints them over the translation d3ad7c8949911b67… (all of the seat's roots in one cut). By AI agents, Wed Nov 11 2026. No macro, syntax, notation, axiom, sorry.
-/
import Derived.Test.YthmcpmdohmfeiaaGreatDoorChecked
import GoSem.Claim
import GoSem.ClaimJoined
import GoSem.ClaimMapViews
import Derived.JoinedTies
import Derived.KernelRfl
namespace Go.Proofs.YthmcpmdohmfeiaaGreatDoor
/- THE CELL 'sum', in the pinned program and in every row, IS THE sha256 OF THE DUMP (.gsa) THAT YthmcpmdohmfeiaaGreatDoorProg.lean LOADS. Nothing in Lean hashes anything: it is a label: what it is worth is what the hold of that sum in a sandbox is worth. -/
noncomputable def Tryz.pinned : Pinned := { name := "ythmcpmdohmfeiaagreatdoor", sum := "d3ad7c8949911b67d8ed13b40b145222c1ed5c1e6f73c3f23937c1cbac769fdb", checked := Tryz.checked }
namespace Rows
def none {H : Type} : Left H := { results := [], args := [] }

/- WHAT THE LISTED PACKAGE-LEVEL VARIABLES READ AS WHEN THE CALL BEGINS. Each datum BY PROGRAM (the guide's laid-datum.mjs) off the statement by which the dump's own 'gosem.cut.vars' lays the variable. In a bare row this is a premise. The card (YthmcpmdohmfeiaaGreatDoorCards.lean) ties it to the program's text. -/
def laid_math_bits_deBruijn32tab {H : Type} : DataW H := .agg [.lit (.int .u8 0), .lit (.int .u8 1), .lit (.int .u8 28), .lit (.int .u8 2), .lit (.int .u8 29), .lit (.int .u8 14), .lit (.int .u8 24), .lit (.int .u8 3), .lit (.int .u8 30), .lit (.int .u8 22), .lit (.int .u8 20), .lit (.int .u8 15), .lit (.int .u8 25), .lit (.int .u8 17), .lit (.int .u8 4), .lit (.int .u8 8), .lit (.int .u8 31), .lit (.int .u8 27), .lit (.int .u8 13), .lit (.int .u8 23), .lit (.int .u8 21), .lit (.int .u8 19), .lit (.int .u8 16), .lit (.int .u8 7), .lit (.int .u8 26), .lit (.int .u8 12), .lit (.int .u8 18), .lit (.int .u8 6), .lit (.int .u8 11), .lit (.int .u8 5), .lit (.int .u8 10), .lit (.int .u8 9)]

/-- 'innkeepertop.TopTraps': WHATEVER THE INPUT: true; the input reads as it did. -/
def topTrapsSpec : ChangeSpec := { name := "topTraps", fn := fun _ => fun
  | [d1, d2, d3] => { results := [.lit (.bool true)], args := [d1, d2, d3] }
  | _ => none }
def topTrapsRow : OpenClaim := { program := "ythmcpmdohmfeiaagreatdoor", sum := "d3ad7c8949911b67d8ed13b40b145222c1ed5c1e6f73c3f23937c1cbac769fdb", func := "innkeeper/innkeepertop.TopTraps", spec := "topTraps", unfollowed := true, recurses := true, named := ["math/bits.deBruijn32tab"], plainKeys := false, apart := false, laid := [("math/bits.deBruijn32tab", laid_math_bits_deBruijn32tab)] }
def TopTrapsSaid : Prop := topTrapsRow.holds Tryz.pinned (OpenSpec.ofChange topTrapsSpec)

/-- ITS FALSE NEIGHBOUR: 'it returns false'. Refute it at one input. -/
def topTrapsWrong : ChangeSpec := { name := "topTraps", fn := fun _ => fun
  | [d1, d2, d3] => { results := [.lit (.bool false)], args := [d1, d2, d3] }
  | _ => none }
def TopTrapsWrongFalsely : Prop := topTrapsRow.holds Tryz.pinned (OpenSpec.ofChange topTrapsWrong)

/-- 'innkeepertop.TopSelf': WHATEVER THE INPUT: true; the input reads as it did. -/
def topSelfSpec : ChangeSpec := { name := "topSelf", fn := fun _ => fun
  | [d1, d2] => { results := [.lit (.bool true)], args := [d1, d2] }
  | _ => none }
def topSelfRow : OpenClaim := { program := "ythmcpmdohmfeiaagreatdoor", sum := "d3ad7c8949911b67d8ed13b40b145222c1ed5c1e6f73c3f23937c1cbac769fdb", func := "innkeeper/innkeepertop.TopSelf", spec := "topSelf", unfollowed := true, recurses := true, named := ["math/bits.deBruijn32tab"], plainKeys := false, apart := false, laid := [("math/bits.deBruijn32tab", laid_math_bits_deBruijn32tab)] }
def TopSelfSaid : Prop := topSelfRow.holds Tryz.pinned (OpenSpec.ofChange topSelfSpec)

/-- ITS FALSE NEIGHBOUR: 'it returns false'. Refute it at one input. -/
def topSelfWrong : ChangeSpec := { name := "topSelf", fn := fun _ => fun
  | [d1, d2] => { results := [.lit (.bool false)], args := [d1, d2] }
  | _ => none }
def TopSelfWrongFalsely : Prop := topSelfRow.holds Tryz.pinned (OpenSpec.ofChange topSelfWrong)

/-- 'innkeepertop.TopDrive': WHATEVER THE INPUT: true; the input reads as it did. -/
def topDriveSpec : ChangeSpec := { name := "topDrive", fn := fun _ => fun
  | [d1, d2] => { results := [.lit (.bool true)], args := [d1, d2] }
  | _ => none }
def topDriveRow : OpenClaim := { program := "ythmcpmdohmfeiaagreatdoor", sum := "d3ad7c8949911b67d8ed13b40b145222c1ed5c1e6f73c3f23937c1cbac769fdb", func := "innkeeper/innkeepertop.TopDrive", spec := "topDrive", unfollowed := true, recurses := true, named := ["math/bits.deBruijn32tab"], plainKeys := false, apart := false, laid := [("math/bits.deBruijn32tab", laid_math_bits_deBruijn32tab)] }
def TopDriveSaid : Prop := topDriveRow.holds Tryz.pinned (OpenSpec.ofChange topDriveSpec)

/-- ITS FALSE NEIGHBOUR: 'it returns false'. Refute it at one input. -/
def topDriveWrong : ChangeSpec := { name := "topDrive", fn := fun _ => fun
  | [d1, d2] => { results := [.lit (.bool false)], args := [d1, d2] }
  | _ => none }
def TopDriveWrongFalsely : Prop := topDriveRow.holds Tryz.pinned (OpenSpec.ofChange topDriveWrong)

/-- 'innkeepertop.TopPaging': WHATEVER THE INPUT: true; the input reads as it did. -/
def topPagingSpec : ChangeSpec := { name := "topPaging", fn := fun _ => fun
  | [d1, d2, d3] => { results := [.lit (.bool true)], args := [d1, d2, d3] }
  | _ => none }
def topPagingRow : OpenClaim := { program := "ythmcpmdohmfeiaagreatdoor", sum := "d3ad7c8949911b67d8ed13b40b145222c1ed5c1e6f73c3f23937c1cbac769fdb", func := "innkeeper/innkeepertop.TopPaging", spec := "topPaging", unfollowed := true, recurses := true, named := ["math/bits.deBruijn32tab"], plainKeys := false, apart := false, laid := [("math/bits.deBruijn32tab", laid_math_bits_deBruijn32tab)] }
def TopPagingSaid : Prop := topPagingRow.holds Tryz.pinned (OpenSpec.ofChange topPagingSpec)

/-- ITS FALSE NEIGHBOUR: 'it returns false'. Refute it at one input. -/
def topPagingWrong : ChangeSpec := { name := "topPaging", fn := fun _ => fun
  | [d1, d2, d3] => { results := [.lit (.bool false)], args := [d1, d2, d3] }
  | _ => none }
def TopPagingWrongFalsely : Prop := topPagingRow.holds Tryz.pinned (OpenSpec.ofChange topPagingWrong)

/-- 'innkeepertop.TopTimer': WHATEVER THE INPUT: true; the input reads as it did. -/
def topTimerSpec : ChangeSpec := { name := "topTimer", fn := fun _ => fun
  | [d] => { results := [.lit (.bool true)], args := [d] }
  | _ => none }
def topTimerRow : OpenClaim := { program := "ythmcpmdohmfeiaagreatdoor", sum := "d3ad7c8949911b67d8ed13b40b145222c1ed5c1e6f73c3f23937c1cbac769fdb", func := "innkeeper/innkeepertop.TopTimer", spec := "topTimer", unfollowed := true, recurses := true, named := ["math/bits.deBruijn32tab"], plainKeys := false, apart := false, laid := [("math/bits.deBruijn32tab", laid_math_bits_deBruijn32tab)] }
def TopTimerSaid : Prop := topTimerRow.holds Tryz.pinned (OpenSpec.ofChange topTimerSpec)

/-- ITS FALSE NEIGHBOUR: 'it returns false'. Refute it at one input. -/
def topTimerWrong : ChangeSpec := { name := "topTimer", fn := fun _ => fun
  | [d] => { results := [.lit (.bool false)], args := [d] }
  | _ => none }
def TopTimerWrongFalsely : Prop := topTimerRow.holds Tryz.pinned (OpenSpec.ofChange topTimerWrong)

/-- 'innkeepertop.TopUsers': WHATEVER THE INPUT: true; the input reads as it did. -/
def topUsersSpec : ChangeSpec := { name := "topUsers", fn := fun _ => fun
  | [d1, d2] => { results := [.lit (.bool true)], args := [d1, d2] }
  | _ => none }
def topUsersRow : OpenClaim := { program := "ythmcpmdohmfeiaagreatdoor", sum := "d3ad7c8949911b67d8ed13b40b145222c1ed5c1e6f73c3f23937c1cbac769fdb", func := "innkeeper/innkeepertop.TopUsers", spec := "topUsers", unfollowed := true, recurses := true, named := ["math/bits.deBruijn32tab"], plainKeys := false, apart := false, laid := [("math/bits.deBruijn32tab", laid_math_bits_deBruijn32tab)] }
def TopUsersSaid : Prop := topUsersRow.holds Tryz.pinned (OpenSpec.ofChange topUsersSpec)

/-- ITS FALSE NEIGHBOUR: 'it returns false'. Refute it at one input. -/
def topUsersWrong : ChangeSpec := { name := "topUsers", fn := fun _ => fun
  | [d1, d2] => { results := [.lit (.bool false)], args := [d1, d2] }
  | _ => none }
def TopUsersWrongFalsely : Prop := topUsersRow.holds Tryz.pinned (OpenSpec.ofChange topUsersWrong)

/-- 'innkeepertop.TopRuns': WHATEVER THE INPUT: true; the input reads as it did. -/
def topRunsSpec : ChangeSpec := { name := "topRuns", fn := fun _ => fun
  | [d1, d2, d3] => { results := [.lit (.bool true)], args := [d1, d2, d3] }
  | _ => none }
def topRunsRow : OpenClaim := { program := "ythmcpmdohmfeiaagreatdoor", sum := "d3ad7c8949911b67d8ed13b40b145222c1ed5c1e6f73c3f23937c1cbac769fdb", func := "innkeeper/innkeepertop.TopRuns", spec := "topRuns", unfollowed := true, recurses := true, named := ["math/bits.deBruijn32tab"], plainKeys := false, apart := false, laid := [("math/bits.deBruijn32tab", laid_math_bits_deBruijn32tab)] }
def TopRunsSaid : Prop := topRunsRow.holds Tryz.pinned (OpenSpec.ofChange topRunsSpec)

/-- ITS FALSE NEIGHBOUR: 'it returns false'. Refute it at one input. -/
def topRunsWrong : ChangeSpec := { name := "topRuns", fn := fun _ => fun
  | [d1, d2, d3] => { results := [.lit (.bool false)], args := [d1, d2, d3] }
  | _ => none }
def TopRunsWrongFalsely : Prop := topRunsRow.holds Tryz.pinned (OpenSpec.ofChange topRunsWrong)

/-- 'innkeepertop.TopLoops': WHATEVER THE INPUT: true; the input reads as it did. -/
def topLoopsSpec : ChangeSpec := { name := "topLoops", fn := fun _ => fun
  | [d1, d2] => { results := [.lit (.bool true)], args := [d1, d2] }
  | _ => none }
def topLoopsRow : OpenClaim := { program := "ythmcpmdohmfeiaagreatdoor", sum := "d3ad7c8949911b67d8ed13b40b145222c1ed5c1e6f73c3f23937c1cbac769fdb", func := "innkeeper/innkeepertop.TopLoops", spec := "topLoops", unfollowed := true, recurses := true, named := ["math/bits.deBruijn32tab"], plainKeys := false, apart := false, laid := [("math/bits.deBruijn32tab", laid_math_bits_deBruijn32tab)] }
def TopLoopsSaid : Prop := topLoopsRow.holds Tryz.pinned (OpenSpec.ofChange topLoopsSpec)

/-- ITS FALSE NEIGHBOUR: 'it returns false'. Refute it at one input. -/
def topLoopsWrong : ChangeSpec := { name := "topLoops", fn := fun _ => fun
  | [d1, d2] => { results := [.lit (.bool false)], args := [d1, d2] }
  | _ => none }
def TopLoopsWrongFalsely : Prop := topLoopsRow.holds Tryz.pinned (OpenSpec.ofChange topLoopsWrong)

/-- 'innkeepertop.TopCopies': WHATEVER THE INPUT: true; the input reads as it did. -/
def topCopiesSpec : ChangeSpec := { name := "topCopies", fn := fun _ => fun
  | [d] => { results := [.lit (.bool true)], args := [d] }
  | _ => none }
def topCopiesRow : OpenClaim := { program := "ythmcpmdohmfeiaagreatdoor", sum := "d3ad7c8949911b67d8ed13b40b145222c1ed5c1e6f73c3f23937c1cbac769fdb", func := "innkeeper/innkeepertop.TopCopies", spec := "topCopies", unfollowed := true, recurses := true, named := ["math/bits.deBruijn32tab"], plainKeys := false, apart := false, laid := [("math/bits.deBruijn32tab", laid_math_bits_deBruijn32tab)] }
def TopCopiesSaid : Prop := topCopiesRow.holds Tryz.pinned (OpenSpec.ofChange topCopiesSpec)

/-- ITS FALSE NEIGHBOUR: 'it returns false'. Refute it at one input. -/
def topCopiesWrong : ChangeSpec := { name := "topCopies", fn := fun _ => fun
  | [d] => { results := [.lit (.bool false)], args := [d] }
  | _ => none }
def TopCopiesWrongFalsely : Prop := topCopiesRow.holds Tryz.pinned (OpenSpec.ofChange topCopiesWrong)

/-- 'innkeepertop.TopCalls': WHATEVER THE INPUT: true; the input reads as it did. -/
def topCallsSpec : ChangeSpec := { name := "topCalls", fn := fun _ => fun
  | [d1, d2] => { results := [.lit (.bool true)], args := [d1, d2] }
  | _ => none }
def topCallsRow : OpenClaim := { program := "ythmcpmdohmfeiaagreatdoor", sum := "d3ad7c8949911b67d8ed13b40b145222c1ed5c1e6f73c3f23937c1cbac769fdb", func := "innkeeper/innkeepertop.TopCalls", spec := "topCalls", unfollowed := true, recurses := true, named := ["math/bits.deBruijn32tab"], plainKeys := false, apart := false, laid := [("math/bits.deBruijn32tab", laid_math_bits_deBruijn32tab)] }
def TopCallsSaid : Prop := topCallsRow.holds Tryz.pinned (OpenSpec.ofChange topCallsSpec)

/-- ITS FALSE NEIGHBOUR: 'it returns false'. Refute it at one input. -/
def topCallsWrong : ChangeSpec := { name := "topCalls", fn := fun _ => fun
  | [d1, d2] => { results := [.lit (.bool false)], args := [d1, d2] }
  | _ => none }
def TopCallsWrongFalsely : Prop := topCallsRow.holds Tryz.pinned (OpenSpec.ofChange topCallsWrong)

/-- 'innkeepertop.TopStacks': WHATEVER THE INPUT: true; the input reads as it did. -/
def topStacksSpec : ChangeSpec := { name := "topStacks", fn := fun _ => fun
  | [d1, d2] => { results := [.lit (.bool true)], args := [d1, d2] }
  | _ => none }
def topStacksRow : OpenClaim := { program := "ythmcpmdohmfeiaagreatdoor", sum := "d3ad7c8949911b67d8ed13b40b145222c1ed5c1e6f73c3f23937c1cbac769fdb", func := "innkeeper/innkeepertop.TopStacks", spec := "topStacks", unfollowed := true, recurses := true, named := ["math/bits.deBruijn32tab"], plainKeys := false, apart := false, laid := [("math/bits.deBruijn32tab", laid_math_bits_deBruijn32tab)] }
def TopStacksSaid : Prop := topStacksRow.holds Tryz.pinned (OpenSpec.ofChange topStacksSpec)

/-- ITS FALSE NEIGHBOUR: 'it returns false'. Refute it at one input. -/
def topStacksWrong : ChangeSpec := { name := "topStacks", fn := fun _ => fun
  | [d1, d2] => { results := [.lit (.bool false)], args := [d1, d2] }
  | _ => none }
def TopStacksWrongFalsely : Prop := topStacksRow.holds Tryz.pinned (OpenSpec.ofChange topStacksWrong)

/-- 'innkeepertop.TopSyscalls': WHATEVER THE INPUT: true; the input reads as it did. -/
def topSyscallsSpec : ChangeSpec := { name := "topSyscalls", fn := fun _ => fun
  | [d1, d2] => { results := [.lit (.bool true)], args := [d1, d2] }
  | _ => none }
def topSyscallsRow : OpenClaim := { program := "ythmcpmdohmfeiaagreatdoor", sum := "d3ad7c8949911b67d8ed13b40b145222c1ed5c1e6f73c3f23937c1cbac769fdb", func := "innkeeper/innkeepertop.TopSyscalls", spec := "topSyscalls", unfollowed := true, recurses := true, named := ["math/bits.deBruijn32tab"], plainKeys := false, apart := false, laid := [("math/bits.deBruijn32tab", laid_math_bits_deBruijn32tab)] }
def TopSyscallsSaid : Prop := topSyscallsRow.holds Tryz.pinned (OpenSpec.ofChange topSyscallsSpec)

/-- ITS FALSE NEIGHBOUR: 'it returns false'. Refute it at one input. -/
def topSyscallsWrong : ChangeSpec := { name := "topSyscalls", fn := fun _ => fun
  | [d1, d2] => { results := [.lit (.bool false)], args := [d1, d2] }
  | _ => none }
def TopSyscallsWrongFalsely : Prop := topSyscallsRow.holds Tryz.pinned (OpenSpec.ofChange topSyscallsWrong)

/- THE SECOND FORM. 'bulk': how many values and letters a reading holds, each counted each time it is reached (what is shared counts as often as it is met; a slice's spare places count too). A statement '..UptoSaid' is the law's where the arguments, and the package variables that the reading takes, are together of bulk at most 1048576: NARROWER than '..Said'. Prove '..Said' where nothing that the law and all that it calls make is longer than what came in: it says more and counts as full. Else prove '..UptoSaid'. A law counts once. -/
mutual
def uptoBulk {H : Type} : DataW H → Nat
  | .lit (.string bytes) => bytes.length + 1
  | .lit _ => 1
  | .nil => 1
  | .ptr d => uptoBulk d + 1
  | .slice elems spare => uptoBulkAll elems + uptoBulkAll spare + 1
  | .agg parts => uptoBulkAll parts + 1
  | .iface _ d => uptoBulk d + 1
  | .map entries => uptoBulkEntries entries + 1
  | .held _ => 1
def uptoBulkAll {H : Type} : List (DataW H) → Nat
  | [] => 0
  | d :: r => uptoBulk d + uptoBulkAll r
def uptoBulkEntries {H : Type} : List (Lit × DataW H) → Nat
  | [] => 0
  | x :: r => uptoBulkEntry x + uptoBulkEntries r
def uptoBulkEntry {H : Type} : Lit × DataW H → Nat
  | (.string bytes, d) => bytes.length + uptoBulk d + 1
  | (_, d) => uptoBulk d + 1
 end
def uptoSmall : (H : Type) → List (DataW H) → Bool := fun _ ds => decide (uptoBulkAll ds ≤ 1048576)
def OpenSpec.upto (s : _root_.Go.ChangeSpec) : _root_.Go.OpenSpec := { _root_.Go.OpenSpec.ofChange s with cond := some uptoSmall }

/-- 'innkeepertop.TopTraps', WHERE WHAT IT READS IS OF BULK AT MOST 1048576: true; the input reads as it did. -/
def topTrapsUptoRow : OpenClaim := { program := "ythmcpmdohmfeiaagreatdoor", sum := "d3ad7c8949911b67d8ed13b40b145222c1ed5c1e6f73c3f23937c1cbac769fdb", func := "innkeeper/innkeepertop.TopTraps", spec := "topTraps", unfollowed := true, recurses := true, named := ["math/bits.deBruijn32tab"], plainKeys := false, apart := false, laid := [("math/bits.deBruijn32tab", laid_math_bits_deBruijn32tab)], narrowed := true }
def TopTrapsUptoSaid : Prop := topTrapsUptoRow.holds Tryz.pinned (OpenSpec.upto topTrapsSpec)

/-- 'innkeepertop.TopSelf', WHERE WHAT IT READS IS OF BULK AT MOST 1048576: true; the input reads as it did. -/
def topSelfUptoRow : OpenClaim := { program := "ythmcpmdohmfeiaagreatdoor", sum := "d3ad7c8949911b67d8ed13b40b145222c1ed5c1e6f73c3f23937c1cbac769fdb", func := "innkeeper/innkeepertop.TopSelf", spec := "topSelf", unfollowed := true, recurses := true, named := ["math/bits.deBruijn32tab"], plainKeys := false, apart := false, laid := [("math/bits.deBruijn32tab", laid_math_bits_deBruijn32tab)], narrowed := true }
def TopSelfUptoSaid : Prop := topSelfUptoRow.holds Tryz.pinned (OpenSpec.upto topSelfSpec)

/-- 'innkeepertop.TopDrive', WHERE WHAT IT READS IS OF BULK AT MOST 1048576: true; the input reads as it did. -/
def topDriveUptoRow : OpenClaim := { program := "ythmcpmdohmfeiaagreatdoor", sum := "d3ad7c8949911b67d8ed13b40b145222c1ed5c1e6f73c3f23937c1cbac769fdb", func := "innkeeper/innkeepertop.TopDrive", spec := "topDrive", unfollowed := true, recurses := true, named := ["math/bits.deBruijn32tab"], plainKeys := false, apart := false, laid := [("math/bits.deBruijn32tab", laid_math_bits_deBruijn32tab)], narrowed := true }
def TopDriveUptoSaid : Prop := topDriveUptoRow.holds Tryz.pinned (OpenSpec.upto topDriveSpec)

/-- 'innkeepertop.TopPaging', WHERE WHAT IT READS IS OF BULK AT MOST 1048576: true; the input reads as it did. -/
def topPagingUptoRow : OpenClaim := { program := "ythmcpmdohmfeiaagreatdoor", sum := "d3ad7c8949911b67d8ed13b40b145222c1ed5c1e6f73c3f23937c1cbac769fdb", func := "innkeeper/innkeepertop.TopPaging", spec := "topPaging", unfollowed := true, recurses := true, named := ["math/bits.deBruijn32tab"], plainKeys := false, apart := false, laid := [("math/bits.deBruijn32tab", laid_math_bits_deBruijn32tab)], narrowed := true }
def TopPagingUptoSaid : Prop := topPagingUptoRow.holds Tryz.pinned (OpenSpec.upto topPagingSpec)

/-- 'innkeepertop.TopTimer', WHERE WHAT IT READS IS OF BULK AT MOST 1048576: true; the input reads as it did. -/
def topTimerUptoRow : OpenClaim := { program := "ythmcpmdohmfeiaagreatdoor", sum := "d3ad7c8949911b67d8ed13b40b145222c1ed5c1e6f73c3f23937c1cbac769fdb", func := "innkeeper/innkeepertop.TopTimer", spec := "topTimer", unfollowed := true, recurses := true, named := ["math/bits.deBruijn32tab"], plainKeys := false, apart := false, laid := [("math/bits.deBruijn32tab", laid_math_bits_deBruijn32tab)], narrowed := true }
def TopTimerUptoSaid : Prop := topTimerUptoRow.holds Tryz.pinned (OpenSpec.upto topTimerSpec)

/-- 'innkeepertop.TopUsers', WHERE WHAT IT READS IS OF BULK AT MOST 1048576: true; the input reads as it did. -/
def topUsersUptoRow : OpenClaim := { program := "ythmcpmdohmfeiaagreatdoor", sum := "d3ad7c8949911b67d8ed13b40b145222c1ed5c1e6f73c3f23937c1cbac769fdb", func := "innkeeper/innkeepertop.TopUsers", spec := "topUsers", unfollowed := true, recurses := true, named := ["math/bits.deBruijn32tab"], plainKeys := false, apart := false, laid := [("math/bits.deBruijn32tab", laid_math_bits_deBruijn32tab)], narrowed := true }
def TopUsersUptoSaid : Prop := topUsersUptoRow.holds Tryz.pinned (OpenSpec.upto topUsersSpec)

/-- 'innkeepertop.TopRuns', WHERE WHAT IT READS IS OF BULK AT MOST 1048576: true; the input reads as it did. -/
def topRunsUptoRow : OpenClaim := { program := "ythmcpmdohmfeiaagreatdoor", sum := "d3ad7c8949911b67d8ed13b40b145222c1ed5c1e6f73c3f23937c1cbac769fdb", func := "innkeeper/innkeepertop.TopRuns", spec := "topRuns", unfollowed := true, recurses := true, named := ["math/bits.deBruijn32tab"], plainKeys := false, apart := false, laid := [("math/bits.deBruijn32tab", laid_math_bits_deBruijn32tab)], narrowed := true }
def TopRunsUptoSaid : Prop := topRunsUptoRow.holds Tryz.pinned (OpenSpec.upto topRunsSpec)

/-- 'innkeepertop.TopLoops', WHERE WHAT IT READS IS OF BULK AT MOST 1048576: true; the input reads as it did. -/
def topLoopsUptoRow : OpenClaim := { program := "ythmcpmdohmfeiaagreatdoor", sum := "d3ad7c8949911b67d8ed13b40b145222c1ed5c1e6f73c3f23937c1cbac769fdb", func := "innkeeper/innkeepertop.TopLoops", spec := "topLoops", unfollowed := true, recurses := true, named := ["math/bits.deBruijn32tab"], plainKeys := false, apart := false, laid := [("math/bits.deBruijn32tab", laid_math_bits_deBruijn32tab)], narrowed := true }
def TopLoopsUptoSaid : Prop := topLoopsUptoRow.holds Tryz.pinned (OpenSpec.upto topLoopsSpec)

/-- 'innkeepertop.TopCopies', WHERE WHAT IT READS IS OF BULK AT MOST 1048576: true; the input reads as it did. -/
def topCopiesUptoRow : OpenClaim := { program := "ythmcpmdohmfeiaagreatdoor", sum := "d3ad7c8949911b67d8ed13b40b145222c1ed5c1e6f73c3f23937c1cbac769fdb", func := "innkeeper/innkeepertop.TopCopies", spec := "topCopies", unfollowed := true, recurses := true, named := ["math/bits.deBruijn32tab"], plainKeys := false, apart := false, laid := [("math/bits.deBruijn32tab", laid_math_bits_deBruijn32tab)], narrowed := true }
def TopCopiesUptoSaid : Prop := topCopiesUptoRow.holds Tryz.pinned (OpenSpec.upto topCopiesSpec)

/-- 'innkeepertop.TopCalls', WHERE WHAT IT READS IS OF BULK AT MOST 1048576: true; the input reads as it did. -/
def topCallsUptoRow : OpenClaim := { program := "ythmcpmdohmfeiaagreatdoor", sum := "d3ad7c8949911b67d8ed13b40b145222c1ed5c1e6f73c3f23937c1cbac769fdb", func := "innkeeper/innkeepertop.TopCalls", spec := "topCalls", unfollowed := true, recurses := true, named := ["math/bits.deBruijn32tab"], plainKeys := false, apart := false, laid := [("math/bits.deBruijn32tab", laid_math_bits_deBruijn32tab)], narrowed := true }
def TopCallsUptoSaid : Prop := topCallsUptoRow.holds Tryz.pinned (OpenSpec.upto topCallsSpec)

/-- 'innkeepertop.TopStacks', WHERE WHAT IT READS IS OF BULK AT MOST 1048576: true; the input reads as it did. -/
def topStacksUptoRow : OpenClaim := { program := "ythmcpmdohmfeiaagreatdoor", sum := "d3ad7c8949911b67d8ed13b40b145222c1ed5c1e6f73c3f23937c1cbac769fdb", func := "innkeeper/innkeepertop.TopStacks", spec := "topStacks", unfollowed := true, recurses := true, named := ["math/bits.deBruijn32tab"], plainKeys := false, apart := false, laid := [("math/bits.deBruijn32tab", laid_math_bits_deBruijn32tab)], narrowed := true }
def TopStacksUptoSaid : Prop := topStacksUptoRow.holds Tryz.pinned (OpenSpec.upto topStacksSpec)

/-- 'innkeepertop.TopSyscalls', WHERE WHAT IT READS IS OF BULK AT MOST 1048576: true; the input reads as it did. -/
def topSyscallsUptoRow : OpenClaim := { program := "ythmcpmdohmfeiaagreatdoor", sum := "d3ad7c8949911b67d8ed13b40b145222c1ed5c1e6f73c3f23937c1cbac769fdb", func := "innkeeper/innkeepertop.TopSyscalls", spec := "topSyscalls", unfollowed := true, recurses := true, named := ["math/bits.deBruijn32tab"], plainKeys := false, apart := false, laid := [("math/bits.deBruijn32tab", laid_math_bits_deBruijn32tab)], narrowed := true }
def TopSyscallsUptoSaid : Prop := topSyscallsUptoRow.holds Tryz.pinned (OpenSpec.upto topSyscallsSpec)

end Rows
end Go.Proofs.YthmcpmdohmfeiaaGreatDoor
