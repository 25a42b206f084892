/-
  NARROWER THAN 'FOR EVERY INPUT', by the rows' own cells (each row's printed sentence says how): GcodeNumbers: laid · GcodeTells: laid · GcodeKinds: laid · GcodeBack: laid · GcodeAny: laid · GcodeCuts: laid.
  DERIVED. THE GIVEN ROWS OF THIS SEAT. 6 by the template 'for every input the law returns true; each argument reads behind the call as it read before'; 0 by the template 'total and deterministic' (their statements: YtpfmmckbfejfnaaDoorTotals.lean).
  GIVEN WITH THE SEED: the statements are not yours to turn. If you find one false, say at which input.
  Laid BY PROGRAM, IN A SANDBOX (cutbox-rows.mjs): the forced cells as the released guide's own fill.sh prints them over the translation 05cc3cd7afe7f54b… (all of the seat's roots in one cut). By AI agents, Wed Nov 11 2026. No macro, syntax, notation, axiom, sorry.
-/
import Derived.Test.YtpfmmckbfejfnaaDoorChecked
import GoSem.Claim
import GoSem.ClaimJoined
import GoSem.ClaimMapViews
import Derived.JoinedTies
import Derived.KernelRfl
namespace Go.Proofs.YtpfmmckbfejfnaaDoor
/- THE CELL 'sum', in the pinned program and in every row, IS THE sha256 OF THE DUMP (.gsa) THAT YtpfmmckbfejfnaaDoorProg.lean LOADS. Nothing in Lean hashes anything: it is a label: what it is worth is what the hold of that sum in a sandbox is worth. -/
noncomputable def Tryd.pinned : Pinned := { name := "ytpfmmckbfejfnaadoor", sum := "05cc3cd7afe7f54bee06dc374308feb7e4642ae796176e9c5eb3e15f4219a8eb", checked := Tryd.checked }
namespace Rows
def none {H : Type} : Left H := { results := [], args := [] }

/- WHAT THE LISTED PACKAGE-LEVEL VARIABLES READ AS WHEN THE CALL BEGINS. Each datum BY PROGRAM (the guide's laid-datum.mjs) off the statement by which the dump's own 'gosem.cut.vars' lays the variable. In a bare row this is a premise. The card (YtpfmmckbfejfnaaDoorCards.lean) ties it to the program's text. -/
def laid_math_bits_deBruijn32tab {H : Type} : DataW H := .agg [.lit (.int .u8 0), .lit (.int .u8 1), .lit (.int .u8 28), .lit (.int .u8 2), .lit (.int .u8 29), .lit (.int .u8 14), .lit (.int .u8 24), .lit (.int .u8 3), .lit (.int .u8 30), .lit (.int .u8 22), .lit (.int .u8 20), .lit (.int .u8 15), .lit (.int .u8 25), .lit (.int .u8 17), .lit (.int .u8 4), .lit (.int .u8 8), .lit (.int .u8 31), .lit (.int .u8 27), .lit (.int .u8 13), .lit (.int .u8 23), .lit (.int .u8 21), .lit (.int .u8 19), .lit (.int .u8 16), .lit (.int .u8 7), .lit (.int .u8 26), .lit (.int .u8 12), .lit (.int .u8 18), .lit (.int .u8 6), .lit (.int .u8 11), .lit (.int .u8 5), .lit (.int .u8 10), .lit (.int .u8 9)]
def laid_math_bits_deBruijn64tab {H : Type} : DataW H := .agg [.lit (.int .u8 0), .lit (.int .u8 1), .lit (.int .u8 56), .lit (.int .u8 2), .lit (.int .u8 57), .lit (.int .u8 49), .lit (.int .u8 28), .lit (.int .u8 3), .lit (.int .u8 61), .lit (.int .u8 58), .lit (.int .u8 42), .lit (.int .u8 50), .lit (.int .u8 38), .lit (.int .u8 29), .lit (.int .u8 17), .lit (.int .u8 4), .lit (.int .u8 62), .lit (.int .u8 47), .lit (.int .u8 59), .lit (.int .u8 36), .lit (.int .u8 45), .lit (.int .u8 43), .lit (.int .u8 51), .lit (.int .u8 22), .lit (.int .u8 53), .lit (.int .u8 39), .lit (.int .u8 33), .lit (.int .u8 30), .lit (.int .u8 24), .lit (.int .u8 18), .lit (.int .u8 12), .lit (.int .u8 5), .lit (.int .u8 63), .lit (.int .u8 55), .lit (.int .u8 48), .lit (.int .u8 27), .lit (.int .u8 60), .lit (.int .u8 41), .lit (.int .u8 37), .lit (.int .u8 16), .lit (.int .u8 46), .lit (.int .u8 35), .lit (.int .u8 44), .lit (.int .u8 21), .lit (.int .u8 52), .lit (.int .u8 32), .lit (.int .u8 23), .lit (.int .u8 11), .lit (.int .u8 54), .lit (.int .u8 26), .lit (.int .u8 40), .lit (.int .u8 15), .lit (.int .u8 34), .lit (.int .u8 20), .lit (.int .u8 31), .lit (.int .u8 10), .lit (.int .u8 25), .lit (.int .u8 14), .lit (.int .u8 19), .lit (.int .u8 9), .lit (.int .u8 13), .lit (.int .u8 8), .lit (.int .u8 7), .lit (.int .u8 6)]
def laid_internal_strconv_uint64pow10 {H : Type} : DataW H := .agg [.lit (.int .u64 1), .lit (.int .u64 10), .lit (.int .u64 100), .lit (.int .u64 1000), .lit (.int .u64 10000), .lit (.int .u64 100000), .lit (.int .u64 1000000), .lit (.int .u64 10000000), .lit (.int .u64 100000000), .lit (.int .u64 1000000000), .lit (.int .u64 10000000000), .lit (.int .u64 100000000000), .lit (.int .u64 1000000000000), .lit (.int .u64 10000000000000), .lit (.int .u64 100000000000000), .lit (.int .u64 1000000000000000), .lit (.int .u64 10000000000000000), .lit (.int .u64 100000000000000000), .lit (.int .u64 1000000000000000000), .lit (.int .u64 10000000000000000000)]

/-- 'innkeeperlaw2.GcodeNumbers': WHATEVER THE INPUT: true; the input reads as it did. -/
def gcodeNumbersSpec : ChangeSpec := { name := "gcodeNumbers", fn := fun _ => fun
  | [] => { results := [.lit (.bool true)], args := [] }
  | _ => none }
def gcodeNumbersRow : OpenClaim := { program := "ytpfmmckbfejfnaadoor", sum := "05cc3cd7afe7f54bee06dc374308feb7e4642ae796176e9c5eb3e15f4219a8eb", func := "innkeeper/innkeeperlaw2.GcodeNumbers", spec := "gcodeNumbers", named := ["internal/strconv.uint64pow10", "math/bits.deBruijn32tab", "math/bits.deBruijn64tab"], apart := false, laid := [("math/bits.deBruijn32tab", laid_math_bits_deBruijn32tab), ("math/bits.deBruijn64tab", laid_math_bits_deBruijn64tab), ("internal/strconv.uint64pow10", laid_internal_strconv_uint64pow10)] }
def GcodeNumbersSaid : Prop := gcodeNumbersRow.holds Tryd.pinned (OpenSpec.ofChange gcodeNumbersSpec)

/-- ITS FALSE NEIGHBOUR: 'it returns false'. Refute it at one input. -/
def gcodeNumbersWrong : ChangeSpec := { name := "gcodeNumbers", fn := fun _ => fun
  | [] => { results := [.lit (.bool false)], args := [] }
  | _ => none }
def GcodeNumbersWrongFalsely : Prop := gcodeNumbersRow.holds Tryd.pinned (OpenSpec.ofChange gcodeNumbersWrong)

/-- 'innkeeperlaw2.GcodeTells': WHATEVER THE INPUT: true; the input reads as it did. -/
def gcodeTellsSpec : ChangeSpec := { name := "gcodeTells", fn := fun _ => fun
  | [d1, d2, d3] => { results := [.lit (.bool true)], args := [d1, d2, d3] }
  | _ => none }
def gcodeTellsRow : OpenClaim := { program := "ytpfmmckbfejfnaadoor", sum := "05cc3cd7afe7f54bee06dc374308feb7e4642ae796176e9c5eb3e15f4219a8eb", func := "innkeeper/innkeeperlaw2.GcodeTells", spec := "gcodeTells", named := ["internal/strconv.uint64pow10", "math/bits.deBruijn32tab", "math/bits.deBruijn64tab"], apart := false, laid := [("math/bits.deBruijn32tab", laid_math_bits_deBruijn32tab), ("math/bits.deBruijn64tab", laid_math_bits_deBruijn64tab), ("internal/strconv.uint64pow10", laid_internal_strconv_uint64pow10)] }
def GcodeTellsSaid : Prop := gcodeTellsRow.holds Tryd.pinned (OpenSpec.ofChange gcodeTellsSpec)

/-- ITS FALSE NEIGHBOUR: 'it returns false'. Refute it at one input. -/
def gcodeTellsWrong : ChangeSpec := { name := "gcodeTells", fn := fun _ => fun
  | [d1, d2, d3] => { results := [.lit (.bool false)], args := [d1, d2, d3] }
  | _ => none }
def GcodeTellsWrongFalsely : Prop := gcodeTellsRow.holds Tryd.pinned (OpenSpec.ofChange gcodeTellsWrong)

/-- 'innkeeperlaw2.GcodeKinds': WHATEVER THE INPUT: true; the input reads as it did. -/
def gcodeKindsSpec : ChangeSpec := { name := "gcodeKinds", fn := fun _ => fun
  | [d1, d2, d3, d4] => { results := [.lit (.bool true)], args := [d1, d2, d3, d4] }
  | _ => none }
def gcodeKindsRow : OpenClaim := { program := "ytpfmmckbfejfnaadoor", sum := "05cc3cd7afe7f54bee06dc374308feb7e4642ae796176e9c5eb3e15f4219a8eb", func := "innkeeper/innkeeperlaw2.GcodeKinds", spec := "gcodeKinds", named := ["internal/strconv.uint64pow10", "math/bits.deBruijn32tab", "math/bits.deBruijn64tab"], apart := false, laid := [("math/bits.deBruijn32tab", laid_math_bits_deBruijn32tab), ("math/bits.deBruijn64tab", laid_math_bits_deBruijn64tab), ("internal/strconv.uint64pow10", laid_internal_strconv_uint64pow10)] }
def GcodeKindsSaid : Prop := gcodeKindsRow.holds Tryd.pinned (OpenSpec.ofChange gcodeKindsSpec)

/-- ITS FALSE NEIGHBOUR: 'it returns false'. Refute it at one input. -/
def gcodeKindsWrong : ChangeSpec := { name := "gcodeKinds", fn := fun _ => fun
  | [d1, d2, d3, d4] => { results := [.lit (.bool false)], args := [d1, d2, d3, d4] }
  | _ => none }
def GcodeKindsWrongFalsely : Prop := gcodeKindsRow.holds Tryd.pinned (OpenSpec.ofChange gcodeKindsWrong)

/-- 'innkeeperlaw2.GcodeBack': WHATEVER THE INPUT: true; the input reads as it did. -/
def gcodeBackSpec : ChangeSpec := { name := "gcodeBack", fn := fun _ => fun
  | [d1, d2, d3] => { results := [.lit (.bool true)], args := [d1, d2, d3] }
  | _ => none }
def gcodeBackRow : OpenClaim := { program := "ytpfmmckbfejfnaadoor", sum := "05cc3cd7afe7f54bee06dc374308feb7e4642ae796176e9c5eb3e15f4219a8eb", func := "innkeeper/innkeeperlaw2.GcodeBack", spec := "gcodeBack", named := ["internal/strconv.uint64pow10", "math/bits.deBruijn32tab", "math/bits.deBruijn64tab"], apart := false, laid := [("math/bits.deBruijn32tab", laid_math_bits_deBruijn32tab), ("math/bits.deBruijn64tab", laid_math_bits_deBruijn64tab), ("internal/strconv.uint64pow10", laid_internal_strconv_uint64pow10)] }
def GcodeBackSaid : Prop := gcodeBackRow.holds Tryd.pinned (OpenSpec.ofChange gcodeBackSpec)

/-- ITS FALSE NEIGHBOUR: 'it returns false'. Refute it at one input. -/
def gcodeBackWrong : ChangeSpec := { name := "gcodeBack", fn := fun _ => fun
  | [d1, d2, d3] => { results := [.lit (.bool false)], args := [d1, d2, d3] }
  | _ => none }
def GcodeBackWrongFalsely : Prop := gcodeBackRow.holds Tryd.pinned (OpenSpec.ofChange gcodeBackWrong)

/-- 'innkeeperlaw2.GcodeAny': WHATEVER THE INPUT: true; the input reads as it did. -/
def gcodeAnySpec : ChangeSpec := { name := "gcodeAny", fn := fun _ => fun
  | [d] => { results := [.lit (.bool true)], args := [d] }
  | _ => none }
def gcodeAnyRow : OpenClaim := { program := "ytpfmmckbfejfnaadoor", sum := "05cc3cd7afe7f54bee06dc374308feb7e4642ae796176e9c5eb3e15f4219a8eb", func := "innkeeper/innkeeperlaw2.GcodeAny", spec := "gcodeAny", named := ["internal/strconv.uint64pow10", "math/bits.deBruijn32tab", "math/bits.deBruijn64tab"], apart := false, laid := [("math/bits.deBruijn32tab", laid_math_bits_deBruijn32tab), ("math/bits.deBruijn64tab", laid_math_bits_deBruijn64tab), ("internal/strconv.uint64pow10", laid_internal_strconv_uint64pow10)] }
def GcodeAnySaid : Prop := gcodeAnyRow.holds Tryd.pinned (OpenSpec.ofChange gcodeAnySpec)

/-- ITS FALSE NEIGHBOUR: 'it returns false'. Refute it at one input. -/
def gcodeAnyWrong : ChangeSpec := { name := "gcodeAny", fn := fun _ => fun
  | [d] => { results := [.lit (.bool false)], args := [d] }
  | _ => none }
def GcodeAnyWrongFalsely : Prop := gcodeAnyRow.holds Tryd.pinned (OpenSpec.ofChange gcodeAnyWrong)

/-- 'innkeeperlaw2.GcodeCuts': WHATEVER THE INPUT: true; the input reads as it did. -/
def gcodeCutsSpec : ChangeSpec := { name := "gcodeCuts", fn := fun _ => fun
  | [d1, d2, d3] => { results := [.lit (.bool true)], args := [d1, d2, d3] }
  | _ => none }
def gcodeCutsRow : OpenClaim := { program := "ytpfmmckbfejfnaadoor", sum := "05cc3cd7afe7f54bee06dc374308feb7e4642ae796176e9c5eb3e15f4219a8eb", func := "innkeeper/innkeeperlaw2.GcodeCuts", spec := "gcodeCuts", named := ["internal/strconv.uint64pow10", "math/bits.deBruijn32tab", "math/bits.deBruijn64tab"], apart := false, laid := [("math/bits.deBruijn32tab", laid_math_bits_deBruijn32tab), ("math/bits.deBruijn64tab", laid_math_bits_deBruijn64tab), ("internal/strconv.uint64pow10", laid_internal_strconv_uint64pow10)] }
def GcodeCutsSaid : Prop := gcodeCutsRow.holds Tryd.pinned (OpenSpec.ofChange gcodeCutsSpec)

/-- ITS FALSE NEIGHBOUR: 'it returns false'. Refute it at one input. -/
def gcodeCutsWrong : ChangeSpec := { name := "gcodeCuts", fn := fun _ => fun
  | [d1, d2, d3] => { results := [.lit (.bool false)], args := [d1, d2, d3] }
  | _ => none }
def GcodeCutsWrongFalsely : Prop := gcodeCutsRow.holds Tryd.pinned (OpenSpec.ofChange gcodeCutsWrong)

/- THE SECOND FORM. 'bulk': how many values and letters a reading holds, each counted each time it is reached (what is shared counts as often as it is met; a slice's spare places count too). A statement '..UptoSaid' is the law's where the arguments, and the package variables that the reading takes, are together of bulk at most 1048576: NARROWER than '..Said'. Prove '..Said' where nothing that the law and all that it calls make is longer than what came in: it says more and counts as full. Else prove '..UptoSaid'. A law counts once. -/
mutual
def uptoBulk {H : Type} : DataW H → Nat
  | .lit (.string bytes) => bytes.length + 1
  | .lit _ => 1
  | .nil => 1
  | .ptr d => uptoBulk d + 1
  | .slice elems spare => uptoBulkAll elems + uptoBulkAll spare + 1
  | .agg parts => uptoBulkAll parts + 1
  | .iface _ d => uptoBulk d + 1
  | .map entries => uptoBulkEntries entries + 1
  | .held _ => 1
def uptoBulkAll {H : Type} : List (DataW H) → Nat
  | [] => 0
  | d :: r => uptoBulk d + uptoBulkAll r
def uptoBulkEntries {H : Type} : List (Lit × DataW H) → Nat
  | [] => 0
  | x :: r => uptoBulkEntry x + uptoBulkEntries r
def uptoBulkEntry {H : Type} : Lit × DataW H → Nat
  | (.string bytes, d) => bytes.length + uptoBulk d + 1
  | (_, d) => uptoBulk d + 1
 end
def uptoSmall : (H : Type) → List (DataW H) → Bool := fun _ ds => decide (uptoBulkAll ds ≤ 1048576)
def OpenSpec.upto (s : _root_.Go.ChangeSpec) : _root_.Go.OpenSpec := { _root_.Go.OpenSpec.ofChange s with cond := some uptoSmall }

/-- 'innkeeperlaw2.GcodeNumbers', WHERE WHAT IT READS IS OF BULK AT MOST 1048576: true; the input reads as it did. -/
def gcodeNumbersUptoRow : OpenClaim := { program := "ytpfmmckbfejfnaadoor", sum := "05cc3cd7afe7f54bee06dc374308feb7e4642ae796176e9c5eb3e15f4219a8eb", func := "innkeeper/innkeeperlaw2.GcodeNumbers", spec := "gcodeNumbers", named := ["internal/strconv.uint64pow10", "math/bits.deBruijn32tab", "math/bits.deBruijn64tab"], apart := false, laid := [("math/bits.deBruijn32tab", laid_math_bits_deBruijn32tab), ("math/bits.deBruijn64tab", laid_math_bits_deBruijn64tab), ("internal/strconv.uint64pow10", laid_internal_strconv_uint64pow10)], narrowed := true }
def GcodeNumbersUptoSaid : Prop := gcodeNumbersUptoRow.holds Tryd.pinned (OpenSpec.upto gcodeNumbersSpec)

/-- 'innkeeperlaw2.GcodeTells', WHERE WHAT IT READS IS OF BULK AT MOST 1048576: true; the input reads as it did. -/
def gcodeTellsUptoRow : OpenClaim := { program := "ytpfmmckbfejfnaadoor", sum := "05cc3cd7afe7f54bee06dc374308feb7e4642ae796176e9c5eb3e15f4219a8eb", func := "innkeeper/innkeeperlaw2.GcodeTells", spec := "gcodeTells", named := ["internal/strconv.uint64pow10", "math/bits.deBruijn32tab", "math/bits.deBruijn64tab"], apart := false, laid := [("math/bits.deBruijn32tab", laid_math_bits_deBruijn32tab), ("math/bits.deBruijn64tab", laid_math_bits_deBruijn64tab), ("internal/strconv.uint64pow10", laid_internal_strconv_uint64pow10)], narrowed := true }
def GcodeTellsUptoSaid : Prop := gcodeTellsUptoRow.holds Tryd.pinned (OpenSpec.upto gcodeTellsSpec)

/-- 'innkeeperlaw2.GcodeKinds', WHERE WHAT IT READS IS OF BULK AT MOST 1048576: true; the input reads as it did. -/
def gcodeKindsUptoRow : OpenClaim := { program := "ytpfmmckbfejfnaadoor", sum := "05cc3cd7afe7f54bee06dc374308feb7e4642ae796176e9c5eb3e15f4219a8eb", func := "innkeeper/innkeeperlaw2.GcodeKinds", spec := "gcodeKinds", named := ["internal/strconv.uint64pow10", "math/bits.deBruijn32tab", "math/bits.deBruijn64tab"], apart := false, laid := [("math/bits.deBruijn32tab", laid_math_bits_deBruijn32tab), ("math/bits.deBruijn64tab", laid_math_bits_deBruijn64tab), ("internal/strconv.uint64pow10", laid_internal_strconv_uint64pow10)], narrowed := true }
def GcodeKindsUptoSaid : Prop := gcodeKindsUptoRow.holds Tryd.pinned (OpenSpec.upto gcodeKindsSpec)

/-- 'innkeeperlaw2.GcodeBack', WHERE WHAT IT READS IS OF BULK AT MOST 1048576: true; the input reads as it did. -/
def gcodeBackUptoRow : OpenClaim := { program := "ytpfmmckbfejfnaadoor", sum := "05cc3cd7afe7f54bee06dc374308feb7e4642ae796176e9c5eb3e15f4219a8eb", func := "innkeeper/innkeeperlaw2.GcodeBack", spec := "gcodeBack", named := ["internal/strconv.uint64pow10", "math/bits.deBruijn32tab", "math/bits.deBruijn64tab"], apart := false, laid := [("math/bits.deBruijn32tab", laid_math_bits_deBruijn32tab), ("math/bits.deBruijn64tab", laid_math_bits_deBruijn64tab), ("internal/strconv.uint64pow10", laid_internal_strconv_uint64pow10)], narrowed := true }
def GcodeBackUptoSaid : Prop := gcodeBackUptoRow.holds Tryd.pinned (OpenSpec.upto gcodeBackSpec)

/-- 'innkeeperlaw2.GcodeAny', WHERE WHAT IT READS IS OF BULK AT MOST 1048576: true; the input reads as it did. -/
def gcodeAnyUptoRow : OpenClaim := { program := "ytpfmmckbfejfnaadoor", sum := "05cc3cd7afe7f54bee06dc374308feb7e4642ae796176e9c5eb3e15f4219a8eb", func := "innkeeper/innkeeperlaw2.GcodeAny", spec := "gcodeAny", named := ["internal/strconv.uint64pow10", "math/bits.deBruijn32tab", "math/bits.deBruijn64tab"], apart := false, laid := [("math/bits.deBruijn32tab", laid_math_bits_deBruijn32tab), ("math/bits.deBruijn64tab", laid_math_bits_deBruijn64tab), ("internal/strconv.uint64pow10", laid_internal_strconv_uint64pow10)], narrowed := true }
def GcodeAnyUptoSaid : Prop := gcodeAnyUptoRow.holds Tryd.pinned (OpenSpec.upto gcodeAnySpec)

/-- 'innkeeperlaw2.GcodeCuts', WHERE WHAT IT READS IS OF BULK AT MOST 1048576: true; the input reads as it did. -/
def gcodeCutsUptoRow : OpenClaim := { program := "ytpfmmckbfejfnaadoor", sum := "05cc3cd7afe7f54bee06dc374308feb7e4642ae796176e9c5eb3e15f4219a8eb", func := "innkeeper/innkeeperlaw2.GcodeCuts", spec := "gcodeCuts", named := ["internal/strconv.uint64pow10", "math/bits.deBruijn32tab", "math/bits.deBruijn64tab"], apart := false, laid := [("math/bits.deBruijn32tab", laid_math_bits_deBruijn32tab), ("math/bits.deBruijn64tab", laid_math_bits_deBruijn64tab), ("internal/strconv.uint64pow10", laid_internal_strconv_uint64pow10)], narrowed := true }
def GcodeCutsUptoSaid : Prop := gcodeCutsUptoRow.holds Tryd.pinned (OpenSpec.upto gcodeCutsSpec)

end Rows
end Go.Proofs.YtpfmmckbfejfnaaDoor
