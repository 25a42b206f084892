/- Chapter 2: what is told of an operation, and the calls of data on it. -/
import Derived.Test.YtpfmmckbfejfnaaDoorRows
import Derived.Test.YtpfmmckbfejfnaaDoorEvSd
namespace Go.Proofs.YtpfmmckbfejfnaaDoor
open Go Go.Ev
set_option linter.unusedVariables false
set_option linter.unusedSimpArgs false
set_option maxRecDepth 100000
namespace Gc
def inT (op : Int) : Bool := decide (0 ≤ op) && decide (op < 70)
def sizeT : List Int := [1, 2, 5, 1, 1, 1, 1, 1, 1, 0, 0, 0, 0, 0, 0, 0, 1, 1, 1, 1, 1, 1, 1, 1, 1, 1, 0, 0, 0, 0, 0, 0, 2, 2, 2, 2, 2, 2, 2, 1, 1, 0, 0, 0, 0, 0, 0, 0, 1, 1, 1, 1, 1, 1, 0, 0, 0, 0, 0, 0, 0, 0, 0, 0, 1, 1, 2, 2, 1, 1]
def nameT : List ByteArray := [⟨⟨[110, 111, 112]⟩⟩, ⟨⟨[108, 105, 116, 56]⟩⟩, ⟨⟨[108, 105, 116, 51, 50]⟩⟩, ⟨⟨[100, 117, 112]⟩⟩, ⟨⟨[100, 114, 111, 112]⟩⟩, ⟨⟨[115, 119, 97, 112]⟩⟩, ⟨⟨[111, 118, 101, 114]⟩⟩, ⟨⟨[116, 111, 114]⟩⟩, ⟨⟨[102, 114, 111, 109, 114]⟩⟩, ⟨⟨[]⟩⟩, ⟨⟨[]⟩⟩, ⟨⟨[]⟩⟩, ⟨⟨[]⟩⟩, ⟨⟨[]⟩⟩, ⟨⟨[]⟩⟩, ⟨⟨[]⟩⟩, ⟨⟨[97, 100, 100]⟩⟩, ⟨⟨[115, 117, 98]⟩⟩, ⟨⟨[97, 110, 100]⟩⟩, ⟨⟨[111, 114]⟩⟩, ⟨⟨[120, 111, 114]⟩⟩, ⟨⟨[115, 104, 108]⟩⟩, ⟨⟨[115, 104, 114]⟩⟩, ⟨⟨[109, 117, 108]⟩⟩, ⟨⟨[100, 105, 118]⟩⟩, ⟨⟨[99, 109, 112]⟩⟩, ⟨⟨[]⟩⟩, ⟨⟨[]⟩⟩, ⟨⟨[]⟩⟩, ⟨⟨[]⟩⟩, ⟨⟨[]⟩⟩, ⟨⟨[]⟩⟩, ⟨⟨[106, 109, 112]⟩⟩, ⟨⟨[106, 122]⟩⟩, ⟨⟨[106, 110, 122]⟩⟩, ⟨⟨[106, 99]⟩⟩, ⟨⟨[106, 110]⟩⟩, ⟨⟨[106, 118]⟩⟩, ⟨⟨[99, 97, 108, 108]⟩⟩, ⟨⟨[114, 101, 116]⟩⟩, ⟨⟨[106, 109, 112, 105]⟩⟩, ⟨⟨[]⟩⟩, ⟨⟨[]⟩⟩, ⟨⟨[]⟩⟩, ⟨⟨[]⟩⟩, ⟨⟨[]⟩⟩, ⟨⟨[]⟩⟩, ⟨⟨[]⟩⟩, ⟨⟨[108, 100]⟩⟩, ⟨⟨[115, 116]⟩⟩, ⟨⟨[108, 100, 117]⟩⟩, ⟨⟨[115, 116, 117]⟩⟩, ⟨⟨[108, 100, 98]⟩⟩, ⟨⟨[115, 116, 98]⟩⟩, ⟨⟨[]⟩⟩, ⟨⟨[]⟩⟩, ⟨⟨[]⟩⟩, ⟨⟨[]⟩⟩, ⟨⟨[]⟩⟩, ⟨⟨[]⟩⟩, ⟨⟨[]⟩⟩, ⟨⟨[]⟩⟩, ⟨⟨[]⟩⟩, ⟨⟨[]⟩⟩, ⟨⟨[115, 121, 115]⟩⟩, ⟨⟨[105, 114, 101, 116]⟩⟩, ⟨⟨[99, 115, 114, 114]⟩⟩, ⟨⟨[99, 115, 114, 119]⟩⟩, ⟨⟨[116, 108, 98, 105]⟩⟩, ⟨⟨[104, 97, 108, 116]⟩⟩]
def otherT : List ByteArray := [⟨⟨[]⟩⟩, ⟨⟨[]⟩⟩, ⟨⟨[]⟩⟩, ⟨⟨[]⟩⟩, ⟨⟨[]⟩⟩, ⟨⟨[]⟩⟩, ⟨⟨[]⟩⟩, ⟨⟨[]⟩⟩, ⟨⟨[]⟩⟩, ⟨⟨[]⟩⟩, ⟨⟨[]⟩⟩, ⟨⟨[]⟩⟩, ⟨⟨[]⟩⟩, ⟨⟨[]⟩⟩, ⟨⟨[]⟩⟩, ⟨⟨[]⟩⟩, ⟨⟨[97, 100, 100]⟩⟩, ⟨⟨[115, 117, 98]⟩⟩, ⟨⟨[97, 110, 100]⟩⟩, ⟨⟨[111, 114]⟩⟩, ⟨⟨[120, 111, 114]⟩⟩, ⟨⟨[115, 104, 108]⟩⟩, ⟨⟨[115, 104, 114]⟩⟩, ⟨⟨[109, 117, 108]⟩⟩, ⟨⟨[100, 105, 118]⟩⟩, ⟨⟨[99, 109, 112]⟩⟩, ⟨⟨[]⟩⟩, ⟨⟨[]⟩⟩, ⟨⟨[]⟩⟩, ⟨⟨[]⟩⟩, ⟨⟨[]⟩⟩, ⟨⟨[]⟩⟩, ⟨⟨[]⟩⟩, ⟨⟨[]⟩⟩, ⟨⟨[]⟩⟩, ⟨⟨[]⟩⟩, ⟨⟨[]⟩⟩, ⟨⟨[]⟩⟩, ⟨⟨[]⟩⟩, ⟨⟨[]⟩⟩, ⟨⟨[]⟩⟩, ⟨⟨[]⟩⟩, ⟨⟨[]⟩⟩, ⟨⟨[]⟩⟩, ⟨⟨[]⟩⟩, ⟨⟨[]⟩⟩, ⟨⟨[]⟩⟩, ⟨⟨[]⟩⟩, ⟨⟨[108, 100]⟩⟩, ⟨⟨[115, 116]⟩⟩, ⟨⟨[108, 100, 117]⟩⟩, ⟨⟨[115, 116, 117]⟩⟩, ⟨⟨[108, 100, 98]⟩⟩, ⟨⟨[115, 116, 98]⟩⟩, ⟨⟨[]⟩⟩, ⟨⟨[]⟩⟩, ⟨⟨[]⟩⟩, ⟨⟨[]⟩⟩, ⟨⟨[]⟩⟩, ⟨⟨[]⟩⟩, ⟨⟨[]⟩⟩, ⟨⟨[]⟩⟩, ⟨⟨[]⟩⟩, ⟨⟨[]⟩⟩, ⟨⟨[115, 121, 115]⟩⟩, ⟨⟨[105, 114, 101, 116]⟩⟩, ⟨⟨[99, 115, 114, 114]⟩⟩, ⟨⟨[99, 115, 114, 119]⟩⟩, ⟨⟨[116, 108, 98, 105]⟩⟩, ⟨⟨[104, 97, 108, 116]⟩⟩]
def endsT : List Bool := [false, false, false, false, false, false, false, false, false, false, false, false, false, false, false, false, false, false, false, false, false, false, false, false, false, false, false, false, false, false, false, false, true, true, true, true, true, true, true, true, true, false, false, false, false, false, false, false, false, false, false, false, false, false, false, false, false, false, false, false, false, false, false, false, true, true, true, true, true, true]
def plainT : List Bool := [true, true, true, true, true, true, true, true, true, false, false, false, false, false, false, false, true, true, true, true, true, true, true, true, false, true, false, false, false, false, false, false, true, true, true, true, true, true, true, true, true, false, false, false, false, false, false, false, false, false, false, false, false, false, false, false, false, false, false, false, false, false, false, false, false, false, false, false, false, false]
def superT : List Bool := [false, false, false, false, false, false, false, false, false, false, false, false, false, false, false, false, false, false, false, false, false, false, false, false, false, false, false, false, false, false, false, false, false, false, false, false, false, false, false, false, false, false, false, false, false, false, false, false, false, false, false, false, false, false, false, false, false, false, false, false, false, false, false, false, false, true, true, true, true, true]
def sizeV (op : Int) : Int := bif inT op then sizeT.getD op.toNat 0 else 0
def nameV (op : Int) : ByteArray := bif inT op then nameT.getD op.toNat ⟨⟨[]⟩⟩ else ⟨⟨[]⟩⟩
def otherV (op : Int) : ByteArray := bif inT op then otherT.getD op.toNat ⟨⟨[]⟩⟩ else ⟨⟨[]⟩⟩
def endsV (op : Int) : Bool := bif inT op then endsT.getD op.toNat false else false
def plainV (op : Int) : Bool := bif inT op then plainT.getD op.toNat false else false
def superV (op : Int) : Bool := bif inT op then superT.getD op.toNat false else false
theorem inT_lo {op : Int} (h : op < 0) : inT op = false := by simp [inT]; omega
theorem inT_hi {op : Int} (h : 70 ≤ op) : inT op = false := by simp [inT]; omega
noncomputable def T0 : Tab := tabOf Tryd.prog
theorem progOk0 [Bs] : ProgOk Tryd.prog T0 := progOk_of (by kernel_rfl) (by kernel_rfl)
noncomputable def f41b : Code := Tryd.f41.body.getD .skip
noncomputable def f41ba : Code := cl f41b
noncomputable def f41bao : Array Oper := opsOf f41ba
noncomputable def f41bc : Code := cr f41b
noncomputable def f41bca : Code := cl f41bc
noncomputable def f41bcaa : Code := cl f41bca
noncomputable def f41bcaao : Array Oper := opsOf f41bcaa
noncomputable def f41bcac : Code := cr f41bca
noncomputable def f41bcaca : Code := cl f41bcac
noncomputable def f41bcacaa : Code := cl f41bcaca
noncomputable def f41bcacaao : Array Oper := opsOf f41bcacaa
noncomputable def f41bcacac : Code := cr f41bcaca
noncomputable def f41bcacaca : Code := cl f41bcacac
noncomputable def f41bcacacaa : Code := cl f41bcacaca
noncomputable def f41bcacacaao : Array Oper := opsOf f41bcacacaa
noncomputable def f41bcacacc : Code := cr f41bcacac
noncomputable def f41bcacacca : Code := cl f41bcacacc
noncomputable def f41bcacaccao : Array Oper := opsOf f41bcacacca
noncomputable def f41bcacaccc : Code := cr f41bcacacc
noncomputable def f41bcacaccca : Code := cl f41bcacaccc
noncomputable def f41bcacacccaa : Code := cl f41bcacaccca
noncomputable def f41bcacacccaao : Array Oper := opsOf f41bcacacccaa
noncomputable def f41bcacacccc : Code := cr f41bcacaccc
noncomputable def f41bcacacccca : Code := cl f41bcacacccc
noncomputable def f41bcacaccccao : Array Oper := opsOf f41bcacacccca
noncomputable def f41bcacaccccc : Code := cr f41bcacacccc
noncomputable def f41bcacaccccca : Code := cl f41bcacaccccc
noncomputable def f41bcacacccccaa : Code := cl f41bcacaccccca
noncomputable def f41bcacacccccaao : Array Oper := opsOf f41bcacacccccaa
noncomputable def f41bcacacccccc : Code := cr f41bcacaccccc
noncomputable def f41bcacacccccca : Code := cl f41bcacacccccc
noncomputable def f41bcacaccccccao : Array Oper := opsOf f41bcacacccccca
noncomputable def f41bcacaccccccc : Code := cr f41bcacacccccc
noncomputable def f41bcacaccccccca : Code := cl f41bcacaccccccc
noncomputable def f41bcacacccccccaa : Code := cl f41bcacaccccccca
noncomputable def f41bcacacccccccaao : Array Oper := opsOf f41bcacacccccccaa
noncomputable def f41bcacacccccccc : Code := cr f41bcacaccccccc
noncomputable def f41bcacacccccccca : Code := cl f41bcacacccccccc
noncomputable def f41bcacaccccccccao : Array Oper := opsOf f41bcacacccccccca
noncomputable def f41bcacaccccccccc : Code := cr f41bcacacccccccc
noncomputable def f41bcacaccccccccca : Code := cl f41bcacaccccccccc
noncomputable def f41bcacacccccccccaa : Code := cl f41bcacaccccccccca
noncomputable def f41bcacacccccccccaao : Array Oper := opsOf f41bcacacccccccccaa
noncomputable def f41bcacacccccccccc : Code := cr f41bcacaccccccccc
noncomputable def f41bcacacccccccccca : Code := cl f41bcacacccccccccc
noncomputable def f41bcacaccccccccccao : Array Oper := opsOf f41bcacacccccccccca
noncomputable def f41bcacaccccccccccc : Code := cr f41bcacacccccccccc
noncomputable def f41bcacaccccccccccca : Code := cl f41bcacaccccccccccc
noncomputable def f41bcacacccccccccccaa : Code := cl f41bcacaccccccccccca
noncomputable def f41bcacacccccccccccaao : Array Oper := opsOf f41bcacacccccccccccaa
noncomputable def f41bcacacccccccccccc : Code := cr f41bcacaccccccccccc
noncomputable def f41bcacacccccccccccca : Code := cl f41bcacacccccccccccc
noncomputable def f41bcacaccccccccccccao : Array Oper := opsOf f41bcacacccccccccccca
noncomputable def f41bcacaccccccccccccc : Code := cr f41bcacacccccccccccc
noncomputable def f41bcacaccccccccccccca : Code := cl f41bcacaccccccccccccc
noncomputable def f41bcacacccccccccccccaa : Code := cl f41bcacaccccccccccccca
noncomputable def f41bcacacccccccccccccaao : Array Oper := opsOf f41bcacacccccccccccccaa
noncomputable def f41bcacacccccccccccccc : Code := cr f41bcacaccccccccccccc
noncomputable def f41bcacacccccccccccccca : Code := cl f41bcacacccccccccccccc
noncomputable def f41bcacaccccccccccccccao : Array Oper := opsOf f41bcacacccccccccccccca
noncomputable def f41bcacaccccccccccccccc : Code := cr f41bcacacccccccccccccc
noncomputable def f41bcacaccccccccccccccca : Code := cl f41bcacaccccccccccccccc
noncomputable def f41bcacacccccccccccccccaa : Code := cl f41bcacaccccccccccccccca
noncomputable def f41bcacacccccccccccccccaao : Array Oper := opsOf f41bcacacccccccccccccccaa
noncomputable def f41bcacacccccccccccccccc : Code := cr f41bcacaccccccccccccccc
noncomputable def f41bcacacccccccccccccccca : Code := cl f41bcacacccccccccccccccc
noncomputable def f41bcacaccccccccccccccccao : Array Oper := opsOf f41bcacacccccccccccccccca
noncomputable def f41bcacaccccccccccccccccc : Code := cr f41bcacacccccccccccccccc
noncomputable def f41bcacaccccccccccccccccca : Code := cl f41bcacaccccccccccccccccc
noncomputable def f41bcacacccccccccccccccccaa : Code := cl f41bcacaccccccccccccccccca
noncomputable def f41bcacacccccccccccccccccaao : Array Oper := opsOf f41bcacacccccccccccccccccaa
noncomputable def f41bcacacccccccccccccccccc : Code := cr f41bcacaccccccccccccccccc
noncomputable def f41bcacacccccccccccccccccca : Code := cl f41bcacacccccccccccccccccc
noncomputable def f41bcacaccccccccccccccccccao : Array Oper := opsOf f41bcacacccccccccccccccccca
noncomputable def f41bcacaccccccccccccccccccc : Code := cr f41bcacacccccccccccccccccc
noncomputable def f41bcacaccccccccccccccccccca : Code := cl f41bcacaccccccccccccccccccc
noncomputable def f41bcacacccccccccccccccccccaa : Code := cl f41bcacaccccccccccccccccccca
noncomputable def f41bcacacccccccccccccccccccaao : Array Oper := opsOf f41bcacacccccccccccccccccccaa
noncomputable def f41bcacacccccccccccccccccccc : Code := cr f41bcacaccccccccccccccccccc
noncomputable def f41bcacacccccccccccccccccccca : Code := cl f41bcacacccccccccccccccccccc
noncomputable def f41bcacaccccccccccccccccccccao : Array Oper := opsOf f41bcacacccccccccccccccccccca
noncomputable def f41bcacaccccccccccccccccccccc : Code := cr f41bcacacccccccccccccccccccc
noncomputable def f41bcacaccccccccccccccccccccca : Code := cl f41bcacaccccccccccccccccccccc
noncomputable def f41bcacacccccccccccccccccccccaa : Code := cl f41bcacaccccccccccccccccccccca
noncomputable def f41bcacacccccccccccccccccccccaao : Array Oper := opsOf f41bcacacccccccccccccccccccccaa
noncomputable def f41bcacacccccccccccccccccccccc : Code := cr f41bcacaccccccccccccccccccccc
noncomputable def f41bcacacccccccccccccccccccccca : Code := cl f41bcacacccccccccccccccccccccc
noncomputable def f41bcacaccccccccccccccccccccccao : Array Oper := opsOf f41bcacacccccccccccccccccccccca
noncomputable def f41bcacaccccccccccccccccccccccc : Code := cr f41bcacacccccccccccccccccccccc
noncomputable def f41bcacaccccccccccccccccccccccca : Code := cl f41bcacaccccccccccccccccccccccc
noncomputable def f41bcacacccccccccccccccccccccccaa : Code := cl f41bcacaccccccccccccccccccccccca
noncomputable def f41bcacacccccccccccccccccccccccaao : Array Oper := opsOf f41bcacacccccccccccccccccccccccaa
noncomputable def f41bcacacccccccccccccccccccccccc : Code := cr f41bcacaccccccccccccccccccccccc
noncomputable def f41bcacacccccccccccccccccccccccca : Code := cl f41bcacacccccccccccccccccccccccc
noncomputable def f41bcacaccccccccccccccccccccccccao : Array Oper := opsOf f41bcacacccccccccccccccccccccccca
noncomputable def f41bcacaccccccccccccccccccccccccc : Code := cr f41bcacacccccccccccccccccccccccc
noncomputable def f41bcacaccccccccccccccccccccccccca : Code := cl f41bcacaccccccccccccccccccccccccc
noncomputable def f41bcacacccccccccccccccccccccccccaa : Code := cl f41bcacaccccccccccccccccccccccccca
noncomputable def f41bcacacccccccccccccccccccccccccaao : Array Oper := opsOf f41bcacacccccccccccccccccccccccccaa
noncomputable def f41bcacacccccccccccccccccccccccccc : Code := cr f41bcacaccccccccccccccccccccccccc
noncomputable def f41bcacacccccccccccccccccccccccccca : Code := cl f41bcacacccccccccccccccccccccccccc
noncomputable def f41bcacaccccccccccccccccccccccccccao : Array Oper := opsOf f41bcacacccccccccccccccccccccccccca
noncomputable def f41bcacaccccccccccccccccccccccccccc : Code := cr f41bcacacccccccccccccccccccccccccc
noncomputable def f41bcacaccccccccccccccccccccccccccca : Code := cl f41bcacaccccccccccccccccccccccccccc
noncomputable def f41bcacacccccccccccccccccccccccccccaa : Code := cl f41bcacaccccccccccccccccccccccccccca
noncomputable def f41bcacacccccccccccccccccccccccccccaao : Array Oper := opsOf f41bcacacccccccccccccccccccccccccccaa
noncomputable def f41bcacacccccccccccccccccccccccccccc : Code := cr f41bcacaccccccccccccccccccccccccccc
noncomputable def f41bcacacccccccccccccccccccccccccccca : Code := cl f41bcacacccccccccccccccccccccccccccc
noncomputable def f41bcacaccccccccccccccccccccccccccccao : Array Oper := opsOf f41bcacacccccccccccccccccccccccccccca
noncomputable def f41bcacaccccccccccccccccccccccccccccc : Code := cr f41bcacacccccccccccccccccccccccccccc
noncomputable def f41bcacaccccccccccccccccccccccccccccca : Code := cl f41bcacaccccccccccccccccccccccccccccc
noncomputable def f41bcacacccccccccccccccccccccccccccccaa : Code := cl f41bcacaccccccccccccccccccccccccccccca
noncomputable def f41bcacacccccccccccccccccccccccccccccaao : Array Oper := opsOf f41bcacacccccccccccccccccccccccccccccaa
noncomputable def f41bcacacccccccccccccccccccccccccccccc : Code := cr f41bcacaccccccccccccccccccccccccccccc
noncomputable def f41bcacacccccccccccccccccccccccccccccca : Code := cl f41bcacacccccccccccccccccccccccccccccc
noncomputable def f41bcacaccccccccccccccccccccccccccccccao : Array Oper := opsOf f41bcacacccccccccccccccccccccccccccccca
noncomputable def f41bcacaccccccccccccccccccccccccccccccc : Code := cr f41bcacacccccccccccccccccccccccccccccc
noncomputable def f41bcacaccccccccccccccccccccccccccccccca : Code := cl f41bcacaccccccccccccccccccccccccccccccc
noncomputable def f41bcacacccccccccccccccccccccccccccccccaa : Code := cl f41bcacaccccccccccccccccccccccccccccccca
noncomputable def f41bcacacccccccccccccccccccccccccccccccaao : Array Oper := opsOf f41bcacacccccccccccccccccccccccccccccccaa
noncomputable def f41bcacacccccccccccccccccccccccccccccccc : Code := cr f41bcacaccccccccccccccccccccccccccccccc
noncomputable def f41bcacacccccccccccccccccccccccccccccccca : Code := cl f41bcacacccccccccccccccccccccccccccccccc
noncomputable def f41bcacaccccccccccccccccccccccccccccccccao : Array Oper := opsOf f41bcacacccccccccccccccccccccccccccccccca
noncomputable def f41bcacaccccccccccccccccccccccccccccccccc : Code := cr f41bcacacccccccccccccccccccccccccccccccc
noncomputable def f41bcacaccccccccccccccccccccccccccccccccca : Code := cl f41bcacaccccccccccccccccccccccccccccccccc
noncomputable def f41bcacacccccccccccccccccccccccccccccccccaa : Code := cl f41bcacaccccccccccccccccccccccccccccccccca
noncomputable def f41bcacacccccccccccccccccccccccccccccccccaao : Array Oper := opsOf f41bcacacccccccccccccccccccccccccccccccccaa
noncomputable def f41bcacacccccccccccccccccccccccccccccccccc : Code := cr f41bcacaccccccccccccccccccccccccccccccccc
noncomputable def f41bcacacccccccccccccccccccccccccccccccccca : Code := cl f41bcacacccccccccccccccccccccccccccccccccc
noncomputable def f41bcacaccccccccccccccccccccccccccccccccccao : Array Oper := opsOf f41bcacacccccccccccccccccccccccccccccccccca
noncomputable def f41bcacaccccccccccccccccccccccccccccccccccc : Code := cr f41bcacacccccccccccccccccccccccccccccccccc
noncomputable def f41bcacaccccccccccccccccccccccccccccccccccca : Code := cl f41bcacaccccccccccccccccccccccccccccccccccc
noncomputable def f41bcacacccccccccccccccccccccccccccccccccccaa : Code := cl f41bcacaccccccccccccccccccccccccccccccccccca
noncomputable def f41bcacacccccccccccccccccccccccccccccccccccaao : Array Oper := opsOf f41bcacacccccccccccccccccccccccccccccccccccaa
noncomputable def f41bcacacccccccccccccccccccccccccccccccccccc : Code := cr f41bcacaccccccccccccccccccccccccccccccccccc
noncomputable def f41bcacacccccccccccccccccccccccccccccccccccca : Code := cl f41bcacacccccccccccccccccccccccccccccccccccc
noncomputable def f41bcacaccccccccccccccccccccccccccccccccccccao : Array Oper := opsOf f41bcacacccccccccccccccccccccccccccccccccccca
noncomputable def f41bcacaccccccccccccccccccccccccccccccccccccc : Code := cr f41bcacacccccccccccccccccccccccccccccccccccc
noncomputable def f41bcacaccccccccccccccccccccccccccccccccccccca : Code := cl f41bcacaccccccccccccccccccccccccccccccccccccc
noncomputable def f41bcacacccccccccccccccccccccccccccccccccccccaa : Code := cl f41bcacaccccccccccccccccccccccccccccccccccccca
noncomputable def f41bcacacccccccccccccccccccccccccccccccccccccaao : Array Oper := opsOf f41bcacacccccccccccccccccccccccccccccccccccccaa
noncomputable def f41bcacacccccccccccccccccccccccccccccccccccccc : Code := cr f41bcacaccccccccccccccccccccccccccccccccccccc
noncomputable def f41bcacacccccccccccccccccccccccccccccccccccccca : Code := cl f41bcacacccccccccccccccccccccccccccccccccccccc
noncomputable def f41bcacaccccccccccccccccccccccccccccccccccccccao : Array Oper := opsOf f41bcacacccccccccccccccccccccccccccccccccccccca
noncomputable def f41bcacaccccccccccccccccccccccccccccccccccccccc : Code := cr f41bcacacccccccccccccccccccccccccccccccccccccc
noncomputable def f41bcacaccccccccccccccccccccccccccccccccccccccca : Code := cl f41bcacaccccccccccccccccccccccccccccccccccccccc
noncomputable def f41bcacacccccccccccccccccccccccccccccccccccccccaa : Code := cl f41bcacaccccccccccccccccccccccccccccccccccccccca
noncomputable def f41bcacacccccccccccccccccccccccccccccccccccccccaao : Array Oper := opsOf f41bcacacccccccccccccccccccccccccccccccccccccccaa
noncomputable def f41bcacacccccccccccccccccccccccccccccccccccccccc : Code := cr f41bcacaccccccccccccccccccccccccccccccccccccccc
noncomputable def f41bcacacccccccccccccccccccccccccccccccccccccccca : Code := cl f41bcacacccccccccccccccccccccccccccccccccccccccc
noncomputable def f41bcacaccccccccccccccccccccccccccccccccccccccccao : Array Oper := opsOf f41bcacacccccccccccccccccccccccccccccccccccccccca
noncomputable def f41bcacaccccccccccccccccccccccccccccccccccccccccc : Code := cr f41bcacacccccccccccccccccccccccccccccccccccccccc
noncomputable def f41bcacaccccccccccccccccccccccccccccccccccccccccca : Code := cl f41bcacaccccccccccccccccccccccccccccccccccccccccc
noncomputable def f41bcacacccccccccccccccccccccccccccccccccccccccccaa : Code := cl f41bcacaccccccccccccccccccccccccccccccccccccccccca
noncomputable def f41bcacacccccccccccccccccccccccccccccccccccccccccaao : Array Oper := opsOf f41bcacacccccccccccccccccccccccccccccccccccccccccaa
noncomputable def f41bcacacccccccccccccccccccccccccccccccccccccccccc : Code := cr f41bcacaccccccccccccccccccccccccccccccccccccccccc
noncomputable def f41bcacacccccccccccccccccccccccccccccccccccccccccca : Code := cl f41bcacacccccccccccccccccccccccccccccccccccccccccc
noncomputable def f41bcacaccccccccccccccccccccccccccccccccccccccccccao : Array Oper := opsOf f41bcacacccccccccccccccccccccccccccccccccccccccccca
noncomputable def f41bcacaccccccccccccccccccccccccccccccccccccccccccc : Code := cr f41bcacacccccccccccccccccccccccccccccccccccccccccc
noncomputable def f41bcacaccccccccccccccccccccccccccccccccccccccccccca : Code := cl f41bcacaccccccccccccccccccccccccccccccccccccccccccc
noncomputable def f41bcacacccccccccccccccccccccccccccccccccccccccccccaa : Code := cl f41bcacaccccccccccccccccccccccccccccccccccccccccccca
noncomputable def f41bcacacccccccccccccccccccccccccccccccccccccccccccaao : Array Oper := opsOf f41bcacacccccccccccccccccccccccccccccccccccccccccccaa
noncomputable def f41bcc : Code := cr f41bc
noncomputable def f41bcca : Code := cl f41bcc
noncomputable def f41bccao : Array Oper := opsOf f41bcca
theorem f41ba_eq : f41ba = .region 0 f41bao false := by kernel_rfl
theorem f41bcaa_eq : f41bcaa = .region 1 f41bcaao false := by kernel_rfl
theorem f41bcacaa_eq : f41bcacaa = .region 2 f41bcacaao false := by kernel_rfl
theorem f41bcacacaa_eq : f41bcacacaa = .region 3 f41bcacacaao false := by kernel_rfl
theorem f41bcacaca_eq : f41bcacaca = .seq f41bcacacaa .ret := by kernel_rfl
theorem f41bcacacca_eq : f41bcacacca = .region 4 f41bcacaccao false := by kernel_rfl
theorem f41bcacacccaa_eq : f41bcacacccaa = .region 5 f41bcacacccaao false := by kernel_rfl
theorem f41bcacaccca_eq : f41bcacaccca = .seq f41bcacacccaa .ret := by kernel_rfl
theorem f41bcacacccca_eq : f41bcacacccca = .region 6 f41bcacaccccao false := by kernel_rfl
theorem f41bcacacccccaa_eq : f41bcacacccccaa = .region 7 f41bcacacccccaao false := by kernel_rfl
theorem f41bcacaccccca_eq : f41bcacaccccca = .seq f41bcacacccccaa .ret := by kernel_rfl
theorem f41bcacacccccca_eq : f41bcacacccccca = .region 8 f41bcacaccccccao false := by kernel_rfl
theorem f41bcacacccccccaa_eq : f41bcacacccccccaa = .region 9 f41bcacacccccccaao false := by kernel_rfl
theorem f41bcacaccccccca_eq : f41bcacaccccccca = .seq f41bcacacccccccaa .ret := by kernel_rfl
theorem f41bcacacccccccca_eq : f41bcacacccccccca = .region 10 f41bcacaccccccccao false := by kernel_rfl
theorem f41bcacacccccccccaa_eq : f41bcacacccccccccaa = .region 11 f41bcacacccccccccaao false := by kernel_rfl
theorem f41bcacaccccccccca_eq : f41bcacaccccccccca = .seq f41bcacacccccccccaa .ret := by kernel_rfl
theorem f41bcacacccccccccca_eq : f41bcacacccccccccca = .region 12 f41bcacaccccccccccao false := by kernel_rfl
theorem f41bcacacccccccccccaa_eq : f41bcacacccccccccccaa = .region 13 f41bcacacccccccccccaao false := by kernel_rfl
theorem f41bcacaccccccccccca_eq : f41bcacaccccccccccca = .seq f41bcacacccccccccccaa .ret := by kernel_rfl
theorem f41bcacacccccccccccca_eq : f41bcacacccccccccccca = .region 14 f41bcacaccccccccccccao false := by kernel_rfl
theorem f41bcacacccccccccccccaa_eq : f41bcacacccccccccccccaa = .region 15 f41bcacacccccccccccccaao false := by kernel_rfl
theorem f41bcacaccccccccccccca_eq : f41bcacaccccccccccccca = .seq f41bcacacccccccccccccaa .ret := by kernel_rfl
theorem f41bcacacccccccccccccca_eq : f41bcacacccccccccccccca = .region 16 f41bcacaccccccccccccccao false := by kernel_rfl
theorem f41bcacacccccccccccccccaa_eq : f41bcacacccccccccccccccaa = .region 17 f41bcacacccccccccccccccaao false := by kernel_rfl
theorem f41bcacaccccccccccccccca_eq : f41bcacaccccccccccccccca = .seq f41bcacacccccccccccccccaa .ret := by kernel_rfl
theorem f41bcacacccccccccccccccca_eq : f41bcacacccccccccccccccca = .region 18 f41bcacaccccccccccccccccao false := by kernel_rfl
theorem f41bcacacccccccccccccccccaa_eq : f41bcacacccccccccccccccccaa = .region 19 f41bcacacccccccccccccccccaao false := by kernel_rfl
theorem f41bcacaccccccccccccccccca_eq : f41bcacaccccccccccccccccca = .seq f41bcacacccccccccccccccccaa .ret := by kernel_rfl
theorem f41bcacacccccccccccccccccca_eq : f41bcacacccccccccccccccccca = .region 20 f41bcacaccccccccccccccccccao false := by kernel_rfl
theorem f41bcacacccccccccccccccccccaa_eq : f41bcacacccccccccccccccccccaa = .region 21 f41bcacacccccccccccccccccccaao false := by kernel_rfl
theorem f41bcacaccccccccccccccccccca_eq : f41bcacaccccccccccccccccccca = .seq f41bcacacccccccccccccccccccaa .ret := by kernel_rfl
theorem f41bcacacccccccccccccccccccca_eq : f41bcacacccccccccccccccccccca = .region 22 f41bcacaccccccccccccccccccccao false := by kernel_rfl
theorem f41bcacacccccccccccccccccccccaa_eq : f41bcacacccccccccccccccccccccaa = .region 23 f41bcacacccccccccccccccccccccaao false := by kernel_rfl
theorem f41bcacaccccccccccccccccccccca_eq : f41bcacaccccccccccccccccccccca = .seq f41bcacacccccccccccccccccccccaa .ret := by kernel_rfl
theorem f41bcacacccccccccccccccccccccca_eq : f41bcacacccccccccccccccccccccca = .region 24 f41bcacaccccccccccccccccccccccao false := by kernel_rfl
theorem f41bcacacccccccccccccccccccccccaa_eq : f41bcacacccccccccccccccccccccccaa = .region 25 f41bcacacccccccccccccccccccccccaao false := by kernel_rfl
theorem f41bcacaccccccccccccccccccccccca_eq : f41bcacaccccccccccccccccccccccca = .seq f41bcacacccccccccccccccccccccccaa .ret := by kernel_rfl
theorem f41bcacacccccccccccccccccccccccca_eq : f41bcacacccccccccccccccccccccccca = .region 26 f41bcacaccccccccccccccccccccccccao false := by kernel_rfl
theorem f41bcacacccccccccccccccccccccccccaa_eq : f41bcacacccccccccccccccccccccccccaa = .region 27 f41bcacacccccccccccccccccccccccccaao false := by kernel_rfl
theorem f41bcacaccccccccccccccccccccccccca_eq : f41bcacaccccccccccccccccccccccccca = .seq f41bcacacccccccccccccccccccccccccaa .ret := by kernel_rfl
theorem f41bcacacccccccccccccccccccccccccca_eq : f41bcacacccccccccccccccccccccccccca = .region 28 f41bcacaccccccccccccccccccccccccccao false := by kernel_rfl
theorem f41bcacacccccccccccccccccccccccccccaa_eq : f41bcacacccccccccccccccccccccccccccaa = .region 29 f41bcacacccccccccccccccccccccccccccaao false := by kernel_rfl
theorem f41bcacaccccccccccccccccccccccccccca_eq : f41bcacaccccccccccccccccccccccccccca = .seq f41bcacacccccccccccccccccccccccccccaa .ret := by kernel_rfl
theorem f41bcacacccccccccccccccccccccccccccca_eq : f41bcacacccccccccccccccccccccccccccca = .region 30 f41bcacaccccccccccccccccccccccccccccao false := by kernel_rfl
theorem f41bcacacccccccccccccccccccccccccccccaa_eq : f41bcacacccccccccccccccccccccccccccccaa = .region 31 f41bcacacccccccccccccccccccccccccccccaao false := by kernel_rfl
theorem f41bcacaccccccccccccccccccccccccccccca_eq : f41bcacaccccccccccccccccccccccccccccca = .seq f41bcacacccccccccccccccccccccccccccccaa .ret := by kernel_rfl
theorem f41bcacacccccccccccccccccccccccccccccca_eq : f41bcacacccccccccccccccccccccccccccccca = .region 32 f41bcacaccccccccccccccccccccccccccccccao false := by kernel_rfl
theorem f41bcacacccccccccccccccccccccccccccccccaa_eq : f41bcacacccccccccccccccccccccccccccccccaa = .region 33 f41bcacacccccccccccccccccccccccccccccccaao false := by kernel_rfl
theorem f41bcacaccccccccccccccccccccccccccccccca_eq : f41bcacaccccccccccccccccccccccccccccccca = .seq f41bcacacccccccccccccccccccccccccccccccaa .ret := by kernel_rfl
theorem f41bcacacccccccccccccccccccccccccccccccca_eq : f41bcacacccccccccccccccccccccccccccccccca = .region 34 f41bcacaccccccccccccccccccccccccccccccccao false := by kernel_rfl
theorem f41bcacacccccccccccccccccccccccccccccccccaa_eq : f41bcacacccccccccccccccccccccccccccccccccaa = .region 35 f41bcacacccccccccccccccccccccccccccccccccaao false := by kernel_rfl
theorem f41bcacaccccccccccccccccccccccccccccccccca_eq : f41bcacaccccccccccccccccccccccccccccccccca = .seq f41bcacacccccccccccccccccccccccccccccccccaa .ret := by kernel_rfl
theorem f41bcacacccccccccccccccccccccccccccccccccca_eq : f41bcacacccccccccccccccccccccccccccccccccca = .region 36 f41bcacaccccccccccccccccccccccccccccccccccao false := by kernel_rfl
theorem f41bcacacccccccccccccccccccccccccccccccccccaa_eq : f41bcacacccccccccccccccccccccccccccccccccccaa = .region 37 f41bcacacccccccccccccccccccccccccccccccccccaao false := by kernel_rfl
theorem f41bcacaccccccccccccccccccccccccccccccccccca_eq : f41bcacaccccccccccccccccccccccccccccccccccca = .seq f41bcacacccccccccccccccccccccccccccccccccccaa .ret := by kernel_rfl
theorem f41bcacacccccccccccccccccccccccccccccccccccca_eq : f41bcacacccccccccccccccccccccccccccccccccccca = .region 38 f41bcacaccccccccccccccccccccccccccccccccccccao false := by kernel_rfl
theorem f41bcacacccccccccccccccccccccccccccccccccccccaa_eq : f41bcacacccccccccccccccccccccccccccccccccccccaa = .region 39 f41bcacacccccccccccccccccccccccccccccccccccccaao false := by kernel_rfl
theorem f41bcacaccccccccccccccccccccccccccccccccccccca_eq : f41bcacaccccccccccccccccccccccccccccccccccccca = .seq f41bcacacccccccccccccccccccccccccccccccccccccaa .ret := by kernel_rfl
theorem f41bcacacccccccccccccccccccccccccccccccccccccca_eq : f41bcacacccccccccccccccccccccccccccccccccccccca = .region 40 f41bcacaccccccccccccccccccccccccccccccccccccccao false := by kernel_rfl
theorem f41bcacacccccccccccccccccccccccccccccccccccccccaa_eq : f41bcacacccccccccccccccccccccccccccccccccccccccaa = .region 41 f41bcacacccccccccccccccccccccccccccccccccccccccaao false := by kernel_rfl
theorem f41bcacaccccccccccccccccccccccccccccccccccccccca_eq : f41bcacaccccccccccccccccccccccccccccccccccccccca = .seq f41bcacacccccccccccccccccccccccccccccccccccccccaa .ret := by kernel_rfl
theorem f41bcacacccccccccccccccccccccccccccccccccccccccca_eq : f41bcacacccccccccccccccccccccccccccccccccccccccca = .region 42 f41bcacaccccccccccccccccccccccccccccccccccccccccao false := by kernel_rfl
theorem f41bcacacccccccccccccccccccccccccccccccccccccccccaa_eq : f41bcacacccccccccccccccccccccccccccccccccccccccccaa = .region 43 f41bcacacccccccccccccccccccccccccccccccccccccccccaao false := by kernel_rfl
theorem f41bcacaccccccccccccccccccccccccccccccccccccccccca_eq : f41bcacaccccccccccccccccccccccccccccccccccccccccca = .seq f41bcacacccccccccccccccccccccccccccccccccccccccccaa .ret := by kernel_rfl
theorem f41bcacacccccccccccccccccccccccccccccccccccccccccca_eq : f41bcacacccccccccccccccccccccccccccccccccccccccccca = .region 44 f41bcacaccccccccccccccccccccccccccccccccccccccccccao false := by kernel_rfl
theorem f41bcacacccccccccccccccccccccccccccccccccccccccccccaa_eq : f41bcacacccccccccccccccccccccccccccccccccccccccccccaa = .region 45 f41bcacacccccccccccccccccccccccccccccccccccccccccccaao false := by kernel_rfl
theorem f41bcacaccccccccccccccccccccccccccccccccccccccccccca_eq : f41bcacaccccccccccccccccccccccccccccccccccccccccccca = .seq f41bcacacccccccccccccccccccccccccccccccccccccccccccaa .ret := by kernel_rfl
theorem f41bcacaccccccccccccccccccccccccccccccccccccccccccc_eq : f41bcacaccccccccccccccccccccccccccccccccccccccccccc = .cond (cop f41bcacaccccccccccccccccccccccccccccccccccccccccccc) f41bcacaccccccccccccccccccccccccccccccccccccccccccca .skip := by kernel_rfl
theorem f41bcacacccccccccccccccccccccccccccccccccccccccccc_eq : f41bcacacccccccccccccccccccccccccccccccccccccccccc = .seq f41bcacacccccccccccccccccccccccccccccccccccccccccca f41bcacaccccccccccccccccccccccccccccccccccccccccccc := by kernel_rfl
theorem f41bcacaccccccccccccccccccccccccccccccccccccccccc_eq : f41bcacaccccccccccccccccccccccccccccccccccccccccc = .cond (cop f41bcacaccccccccccccccccccccccccccccccccccccccccc) f41bcacaccccccccccccccccccccccccccccccccccccccccca f41bcacacccccccccccccccccccccccccccccccccccccccccc := by kernel_rfl
theorem f41bcacacccccccccccccccccccccccccccccccccccccccc_eq : f41bcacacccccccccccccccccccccccccccccccccccccccc = .seq f41bcacacccccccccccccccccccccccccccccccccccccccca f41bcacaccccccccccccccccccccccccccccccccccccccccc := by kernel_rfl
theorem f41bcacaccccccccccccccccccccccccccccccccccccccc_eq : f41bcacaccccccccccccccccccccccccccccccccccccccc = .cond (cop f41bcacaccccccccccccccccccccccccccccccccccccccc) f41bcacaccccccccccccccccccccccccccccccccccccccca f41bcacacccccccccccccccccccccccccccccccccccccccc := by kernel_rfl
theorem f41bcacacccccccccccccccccccccccccccccccccccccc_eq : f41bcacacccccccccccccccccccccccccccccccccccccc = .seq f41bcacacccccccccccccccccccccccccccccccccccccca f41bcacaccccccccccccccccccccccccccccccccccccccc := by kernel_rfl
theorem f41bcacaccccccccccccccccccccccccccccccccccccc_eq : f41bcacaccccccccccccccccccccccccccccccccccccc = .cond (cop f41bcacaccccccccccccccccccccccccccccccccccccc) f41bcacaccccccccccccccccccccccccccccccccccccca f41bcacacccccccccccccccccccccccccccccccccccccc := by kernel_rfl
theorem f41bcacacccccccccccccccccccccccccccccccccccc_eq : f41bcacacccccccccccccccccccccccccccccccccccc = .seq f41bcacacccccccccccccccccccccccccccccccccccca f41bcacaccccccccccccccccccccccccccccccccccccc := by kernel_rfl
theorem f41bcacaccccccccccccccccccccccccccccccccccc_eq : f41bcacaccccccccccccccccccccccccccccccccccc = .cond (cop f41bcacaccccccccccccccccccccccccccccccccccc) f41bcacaccccccccccccccccccccccccccccccccccca f41bcacacccccccccccccccccccccccccccccccccccc := by kernel_rfl
theorem f41bcacacccccccccccccccccccccccccccccccccc_eq : f41bcacacccccccccccccccccccccccccccccccccc = .seq f41bcacacccccccccccccccccccccccccccccccccca f41bcacaccccccccccccccccccccccccccccccccccc := by kernel_rfl
theorem f41bcacaccccccccccccccccccccccccccccccccc_eq : f41bcacaccccccccccccccccccccccccccccccccc = .cond (cop f41bcacaccccccccccccccccccccccccccccccccc) f41bcacaccccccccccccccccccccccccccccccccca f41bcacacccccccccccccccccccccccccccccccccc := by kernel_rfl
theorem f41bcacacccccccccccccccccccccccccccccccc_eq : f41bcacacccccccccccccccccccccccccccccccc = .seq f41bcacacccccccccccccccccccccccccccccccca f41bcacaccccccccccccccccccccccccccccccccc := by kernel_rfl
theorem f41bcacaccccccccccccccccccccccccccccccc_eq : f41bcacaccccccccccccccccccccccccccccccc = .cond (cop f41bcacaccccccccccccccccccccccccccccccc) f41bcacaccccccccccccccccccccccccccccccca f41bcacacccccccccccccccccccccccccccccccc := by kernel_rfl
theorem f41bcacacccccccccccccccccccccccccccccc_eq : f41bcacacccccccccccccccccccccccccccccc = .seq f41bcacacccccccccccccccccccccccccccccca f41bcacaccccccccccccccccccccccccccccccc := by kernel_rfl
theorem f41bcacaccccccccccccccccccccccccccccc_eq : f41bcacaccccccccccccccccccccccccccccc = .cond (cop f41bcacaccccccccccccccccccccccccccccc) f41bcacaccccccccccccccccccccccccccccca f41bcacacccccccccccccccccccccccccccccc := by kernel_rfl
theorem f41bcacacccccccccccccccccccccccccccc_eq : f41bcacacccccccccccccccccccccccccccc = .seq f41bcacacccccccccccccccccccccccccccca f41bcacaccccccccccccccccccccccccccccc := by kernel_rfl
theorem f41bcacaccccccccccccccccccccccccccc_eq : f41bcacaccccccccccccccccccccccccccc = .cond (cop f41bcacaccccccccccccccccccccccccccc) f41bcacaccccccccccccccccccccccccccca f41bcacacccccccccccccccccccccccccccc := by kernel_rfl
theorem f41bcacacccccccccccccccccccccccccc_eq : f41bcacacccccccccccccccccccccccccc = .seq f41bcacacccccccccccccccccccccccccca f41bcacaccccccccccccccccccccccccccc := by kernel_rfl
theorem f41bcacaccccccccccccccccccccccccc_eq : f41bcacaccccccccccccccccccccccccc = .cond (cop f41bcacaccccccccccccccccccccccccc) f41bcacaccccccccccccccccccccccccca f41bcacacccccccccccccccccccccccccc := by kernel_rfl
theorem f41bcacacccccccccccccccccccccccc_eq : f41bcacacccccccccccccccccccccccc = .seq f41bcacacccccccccccccccccccccccca f41bcacaccccccccccccccccccccccccc := by kernel_rfl
theorem f41bcacaccccccccccccccccccccccc_eq : f41bcacaccccccccccccccccccccccc = .cond (cop f41bcacaccccccccccccccccccccccc) f41bcacaccccccccccccccccccccccca f41bcacacccccccccccccccccccccccc := by kernel_rfl
theorem f41bcacacccccccccccccccccccccc_eq : f41bcacacccccccccccccccccccccc = .seq f41bcacacccccccccccccccccccccca f41bcacaccccccccccccccccccccccc := by kernel_rfl
theorem f41bcacaccccccccccccccccccccc_eq : f41bcacaccccccccccccccccccccc = .cond (cop f41bcacaccccccccccccccccccccc) f41bcacaccccccccccccccccccccca f41bcacacccccccccccccccccccccc := by kernel_rfl
theorem f41bcacacccccccccccccccccccc_eq : f41bcacacccccccccccccccccccc = .seq f41bcacacccccccccccccccccccca f41bcacaccccccccccccccccccccc := by kernel_rfl
theorem f41bcacaccccccccccccccccccc_eq : f41bcacaccccccccccccccccccc = .cond (cop f41bcacaccccccccccccccccccc) f41bcacaccccccccccccccccccca f41bcacacccccccccccccccccccc := by kernel_rfl
theorem f41bcacacccccccccccccccccc_eq : f41bcacacccccccccccccccccc = .seq f41bcacacccccccccccccccccca f41bcacaccccccccccccccccccc := by kernel_rfl
theorem f41bcacaccccccccccccccccc_eq : f41bcacaccccccccccccccccc = .cond (cop f41bcacaccccccccccccccccc) f41bcacaccccccccccccccccca f41bcacacccccccccccccccccc := by kernel_rfl
theorem f41bcacacccccccccccccccc_eq : f41bcacacccccccccccccccc = .seq f41bcacacccccccccccccccca f41bcacaccccccccccccccccc := by kernel_rfl
theorem f41bcacaccccccccccccccc_eq : f41bcacaccccccccccccccc = .cond (cop f41bcacaccccccccccccccc) f41bcacaccccccccccccccca f41bcacacccccccccccccccc := by kernel_rfl
theorem f41bcacacccccccccccccc_eq : f41bcacacccccccccccccc = .seq f41bcacacccccccccccccca f41bcacaccccccccccccccc := by kernel_rfl
theorem f41bcacaccccccccccccc_eq : f41bcacaccccccccccccc = .cond (cop f41bcacaccccccccccccc) f41bcacaccccccccccccca f41bcacacccccccccccccc := by kernel_rfl
theorem f41bcacacccccccccccc_eq : f41bcacacccccccccccc = .seq f41bcacacccccccccccca f41bcacaccccccccccccc := by kernel_rfl
theorem f41bcacaccccccccccc_eq : f41bcacaccccccccccc = .cond (cop f41bcacaccccccccccc) f41bcacaccccccccccca f41bcacacccccccccccc := by kernel_rfl
theorem f41bcacacccccccccc_eq : f41bcacacccccccccc = .seq f41bcacacccccccccca f41bcacaccccccccccc := by kernel_rfl
theorem f41bcacaccccccccc_eq : f41bcacaccccccccc = .cond (cop f41bcacaccccccccc) f41bcacaccccccccca f41bcacacccccccccc := by kernel_rfl
theorem f41bcacacccccccc_eq : f41bcacacccccccc = .seq f41bcacacccccccca f41bcacaccccccccc := by kernel_rfl
theorem f41bcacaccccccc_eq : f41bcacaccccccc = .cond (cop f41bcacaccccccc) f41bcacaccccccca f41bcacacccccccc := by kernel_rfl
theorem f41bcacacccccc_eq : f41bcacacccccc = .seq f41bcacacccccca f41bcacaccccccc := by kernel_rfl
theorem f41bcacaccccc_eq : f41bcacaccccc = .cond (cop f41bcacaccccc) f41bcacaccccca f41bcacacccccc := by kernel_rfl
theorem f41bcacacccc_eq : f41bcacacccc = .seq f41bcacacccca f41bcacaccccc := by kernel_rfl
theorem f41bcacaccc_eq : f41bcacaccc = .cond (cop f41bcacaccc) f41bcacaccca f41bcacacccc := by kernel_rfl
theorem f41bcacacc_eq : f41bcacacc = .seq f41bcacacca f41bcacaccc := by kernel_rfl
theorem f41bcacac_eq : f41bcacac = .cond (cop f41bcacac) f41bcacaca f41bcacacc := by kernel_rfl
theorem f41bcaca_eq : f41bcaca = .seq f41bcacaa f41bcacac := by kernel_rfl
theorem f41bcac_eq : f41bcac = .block 0 f41bcaca := by kernel_rfl
theorem f41bca_eq : f41bca = .seq f41bcaa f41bcac := by kernel_rfl
theorem f41bcca_eq : f41bcca = .region 46 f41bccao false := by kernel_rfl
theorem f41bcc_eq : f41bcc = .seq f41bcca .ret := by kernel_rfl
theorem f41bc_eq : f41bc = .seq f41bca f41bcc := by kernel_rfl
theorem f41b_eq : f41b = .seq f41ba f41bc := by kernel_rfl
theorem f41_body : Tryd.f41.body = some f41b := by kernel_rfl
theorem f41_fn : T0.fn 41 = some Tryd.f41 := by kernel_rfl
theorem f41_lo {op : Int} (h : op < 0) : ACall Tryd.prog T0 41 #[.int .i64 op] ⟨.lf, 0⟩ fun r _ => r = .string (otherV op) := by
  refine acall_of' 48 (initTm 0 #[.int .i64 op]) rfl f41_fn f41_body rfl rfl ?_
  rw [f41b_eq]
  refine aw_then ?_
  rw [f41ba_eq]
  refine aw_reg ?_
  refine aops_go 1 60 (by kernel_rfl) ?_
  refine aops_end (by kernel_rfl) (then_normal ?_)
  rw [f41bc_eq]
  refine aw_then ?_
  rw [f41bca_eq]
  refine aw_then ?_
  rw [f41bcaa_eq]
  refine aw_reg ?_
  refine aops_go 1 60 (by kernel_rfl) ?_
  refine aops_end (by kernel_rfl) (then_normal ?_)
  rw [f41bcac_eq]
  refine aw_block ?_
  rw [f41bcaca_eq]
  refine aw_then ?_
  rw [f41bcacaa_eq]
  refine aw_reg ?_
  refine aops_go 2 60 (by kernel_rfl) ?_
  refine aops_end (by kernel_rfl) (then_normal ?_)
  rw [f41bcacac_eq]
  refine aw_cond (t := false) (see_bool (by kernel_rfl) ((by simp; omega) : (((op : Int) == 16)) = false)) ?_
  rw [f41bcacacc_eq]
  refine aw_then ?_
  rw [f41bcacacca_eq]
  refine aw_reg ?_
  refine aops_go 2 60 (by kernel_rfl) ?_
  refine aops_end (by kernel_rfl) (then_normal ?_)
  rw [f41bcacaccc_eq]
  refine aw_cond (t := false) (see_bool (by kernel_rfl) ((by simp; omega) : (((op : Int) == 17)) = false)) ?_
  rw [f41bcacacccc_eq]
  refine aw_then ?_
  rw [f41bcacacccca_eq]
  refine aw_reg ?_
  refine aops_go 2 60 (by kernel_rfl) ?_
  refine aops_end (by kernel_rfl) (then_normal ?_)
  rw [f41bcacaccccc_eq]
  refine aw_cond (t := false) (see_bool (by kernel_rfl) ((by simp; omega) : (((op : Int) == 18)) = false)) ?_
  rw [f41bcacacccccc_eq]
  refine aw_then ?_
  rw [f41bcacacccccca_eq]
  refine aw_reg ?_
  refine aops_go 2 60 (by kernel_rfl) ?_
  refine aops_end (by kernel_rfl) (then_normal ?_)
  rw [f41bcacaccccccc_eq]
  refine aw_cond (t := false) (see_bool (by kernel_rfl) ((by simp; omega) : (((op : Int) == 19)) = false)) ?_
  rw [f41bcacacccccccc_eq]
  refine aw_then ?_
  rw [f41bcacacccccccca_eq]
  refine aw_reg ?_
  refine aops_go 2 60 (by kernel_rfl) ?_
  refine aops_end (by kernel_rfl) (then_normal ?_)
  rw [f41bcacaccccccccc_eq]
  refine aw_cond (t := false) (see_bool (by kernel_rfl) ((by simp; omega) : (((op : Int) == 20)) = false)) ?_
  rw [f41bcacacccccccccc_eq]
  refine aw_then ?_
  rw [f41bcacacccccccccca_eq]
  refine aw_reg ?_
  refine aops_go 2 60 (by kernel_rfl) ?_
  refine aops_end (by kernel_rfl) (then_normal ?_)
  rw [f41bcacaccccccccccc_eq]
  refine aw_cond (t := false) (see_bool (by kernel_rfl) ((by simp; omega) : (((op : Int) == 21)) = false)) ?_
  rw [f41bcacacccccccccccc_eq]
  refine aw_then ?_
  rw [f41bcacacccccccccccca_eq]
  refine aw_reg ?_
  refine aops_go 2 60 (by kernel_rfl) ?_
  refine aops_end (by kernel_rfl) (then_normal ?_)
  rw [f41bcacaccccccccccccc_eq]
  refine aw_cond (t := false) (see_bool (by kernel_rfl) ((by simp; omega) : (((op : Int) == 22)) = false)) ?_
  rw [f41bcacacccccccccccccc_eq]
  refine aw_then ?_
  rw [f41bcacacccccccccccccca_eq]
  refine aw_reg ?_
  refine aops_go 2 60 (by kernel_rfl) ?_
  refine aops_end (by kernel_rfl) (then_normal ?_)
  rw [f41bcacaccccccccccccccc_eq]
  refine aw_cond (t := false) (see_bool (by kernel_rfl) ((by simp; omega) : (((op : Int) == 23)) = false)) ?_
  rw [f41bcacacccccccccccccccc_eq]
  refine aw_then ?_
  rw [f41bcacacccccccccccccccca_eq]
  refine aw_reg ?_
  refine aops_go 2 60 (by kernel_rfl) ?_
  refine aops_end (by kernel_rfl) (then_normal ?_)
  rw [f41bcacaccccccccccccccccc_eq]
  refine aw_cond (t := false) (see_bool (by kernel_rfl) ((by simp; omega) : (((op : Int) == 24)) = false)) ?_
  rw [f41bcacacccccccccccccccccc_eq]
  refine aw_then ?_
  rw [f41bcacacccccccccccccccccca_eq]
  refine aw_reg ?_
  refine aops_go 2 60 (by kernel_rfl) ?_
  refine aops_end (by kernel_rfl) (then_normal ?_)
  rw [f41bcacaccccccccccccccccccc_eq]
  refine aw_cond (t := false) (see_bool (by kernel_rfl) ((by simp; omega) : (((op : Int) == 25)) = false)) ?_
  rw [f41bcacacccccccccccccccccccc_eq]
  refine aw_then ?_
  rw [f41bcacacccccccccccccccccccca_eq]
  refine aw_reg ?_
  refine aops_go 2 60 (by kernel_rfl) ?_
  refine aops_end (by kernel_rfl) (then_normal ?_)
  rw [f41bcacaccccccccccccccccccccc_eq]
  refine aw_cond (t := false) (see_bool (by kernel_rfl) ((by simp; omega) : (((op : Int) == 48)) = false)) ?_
  rw [f41bcacacccccccccccccccccccccc_eq]
  refine aw_then ?_
  rw [f41bcacacccccccccccccccccccccca_eq]
  refine aw_reg ?_
  refine aops_go 2 60 (by kernel_rfl) ?_
  refine aops_end (by kernel_rfl) (then_normal ?_)
  rw [f41bcacaccccccccccccccccccccccc_eq]
  refine aw_cond (t := false) (see_bool (by kernel_rfl) ((by simp; omega) : (((op : Int) == 49)) = false)) ?_
  rw [f41bcacacccccccccccccccccccccccc_eq]
  refine aw_then ?_
  rw [f41bcacacccccccccccccccccccccccca_eq]
  refine aw_reg ?_
  refine aops_go 2 60 (by kernel_rfl) ?_
  refine aops_end (by kernel_rfl) (then_normal ?_)
  rw [f41bcacaccccccccccccccccccccccccc_eq]
  refine aw_cond (t := false) (see_bool (by kernel_rfl) ((by simp; omega) : (((op : Int) == 50)) = false)) ?_
  rw [f41bcacacccccccccccccccccccccccccc_eq]
  refine aw_then ?_
  rw [f41bcacacccccccccccccccccccccccccca_eq]
  refine aw_reg ?_
  refine aops_go 2 60 (by kernel_rfl) ?_
  refine aops_end (by kernel_rfl) (then_normal ?_)
  rw [f41bcacaccccccccccccccccccccccccccc_eq]
  refine aw_cond (t := false) (see_bool (by kernel_rfl) ((by simp; omega) : (((op : Int) == 51)) = false)) ?_
  rw [f41bcacacccccccccccccccccccccccccccc_eq]
  refine aw_then ?_
  rw [f41bcacacccccccccccccccccccccccccccca_eq]
  refine aw_reg ?_
  refine aops_go 2 60 (by kernel_rfl) ?_
  refine aops_end (by kernel_rfl) (then_normal ?_)
  rw [f41bcacaccccccccccccccccccccccccccccc_eq]
  refine aw_cond (t := false) (see_bool (by kernel_rfl) ((by simp; omega) : (((op : Int) == 52)) = false)) ?_
  rw [f41bcacacccccccccccccccccccccccccccccc_eq]
  refine aw_then ?_
  rw [f41bcacacccccccccccccccccccccccccccccca_eq]
  refine aw_reg ?_
  refine aops_go 2 60 (by kernel_rfl) ?_
  refine aops_end (by kernel_rfl) (then_normal ?_)
  rw [f41bcacaccccccccccccccccccccccccccccccc_eq]
  refine aw_cond (t := false) (see_bool (by kernel_rfl) ((by simp; omega) : (((op : Int) == 53)) = false)) ?_
  rw [f41bcacacccccccccccccccccccccccccccccccc_eq]
  refine aw_then ?_
  rw [f41bcacacccccccccccccccccccccccccccccccca_eq]
  refine aw_reg ?_
  refine aops_go 2 60 (by kernel_rfl) ?_
  refine aops_end (by kernel_rfl) (then_normal ?_)
  rw [f41bcacaccccccccccccccccccccccccccccccccc_eq]
  refine aw_cond (t := false) (see_bool (by kernel_rfl) ((by simp; omega) : (((op : Int) == 64)) = false)) ?_
  rw [f41bcacacccccccccccccccccccccccccccccccccc_eq]
  refine aw_then ?_
  rw [f41bcacacccccccccccccccccccccccccccccccccca_eq]
  refine aw_reg ?_
  refine aops_go 2 60 (by kernel_rfl) ?_
  refine aops_end (by kernel_rfl) (then_normal ?_)
  rw [f41bcacaccccccccccccccccccccccccccccccccccc_eq]
  refine aw_cond (t := false) (see_bool (by kernel_rfl) ((by simp; omega) : (((op : Int) == 65)) = false)) ?_
  rw [f41bcacacccccccccccccccccccccccccccccccccccc_eq]
  refine aw_then ?_
  rw [f41bcacacccccccccccccccccccccccccccccccccccca_eq]
  refine aw_reg ?_
  refine aops_go 2 60 (by kernel_rfl) ?_
  refine aops_end (by kernel_rfl) (then_normal ?_)
  rw [f41bcacaccccccccccccccccccccccccccccccccccccc_eq]
  refine aw_cond (t := false) (see_bool (by kernel_rfl) ((by simp; omega) : (((op : Int) == 66)) = false)) ?_
  rw [f41bcacacccccccccccccccccccccccccccccccccccccc_eq]
  refine aw_then ?_
  rw [f41bcacacccccccccccccccccccccccccccccccccccccca_eq]
  refine aw_reg ?_
  refine aops_go 2 60 (by kernel_rfl) ?_
  refine aops_end (by kernel_rfl) (then_normal ?_)
  rw [f41bcacaccccccccccccccccccccccccccccccccccccccc_eq]
  refine aw_cond (t := false) (see_bool (by kernel_rfl) ((by simp; omega) : (((op : Int) == 67)) = false)) ?_
  rw [f41bcacacccccccccccccccccccccccccccccccccccccccc_eq]
  refine aw_then ?_
  rw [f41bcacacccccccccccccccccccccccccccccccccccccccca_eq]
  refine aw_reg ?_
  refine aops_go 2 60 (by kernel_rfl) ?_
  refine aops_end (by kernel_rfl) (then_normal ?_)
  rw [f41bcacaccccccccccccccccccccccccccccccccccccccccc_eq]
  refine aw_cond (t := false) (see_bool (by kernel_rfl) ((by simp; omega) : (((op : Int) == 68)) = false)) ?_
  rw [f41bcacacccccccccccccccccccccccccccccccccccccccccc_eq]
  refine aw_then ?_
  rw [f41bcacacccccccccccccccccccccccccccccccccccccccccca_eq]
  refine aw_reg ?_
  refine aops_go 2 60 (by kernel_rfl) ?_
  refine aops_end (by kernel_rfl) (then_normal ?_)
  rw [f41bcacaccccccccccccccccccccccccccccccccccccccccccc_eq]
  refine aw_cond (t := false) (see_bool (by kernel_rfl) ((by simp; omega) : (((op : Int) == 69)) = false)) ?_
  refine aw_skip (blk_normal (then_normal ?_))
  rw [f41bcc_eq]
  refine aw_then ?_
  rw [f41bcca_eq]
  refine aw_reg ?_
  refine aops_go 1 60 (by kernel_rfl) ?_
  refine aops_end (by kernel_rfl) (then_normal ?_)
  refine aw_ret (bodyQ_ret ⟨.string ⟨⟨[]⟩⟩, (by kernel_rfl), ?_⟩)
  first
  | (simp only [otherV, inT_lo h, cond_false]; done)
  | (simp only [otherV, inT_lo h, cond_false]; congr 1; simp; omega)
theorem f41_hi {op : Int} (h : 70 ≤ op) : ACall Tryd.prog T0 41 #[.int .i64 op] ⟨.lf, 0⟩ fun r _ => r = .string (otherV op) := by
  refine acall_of' 48 (initTm 0 #[.int .i64 op]) rfl f41_fn f41_body rfl rfl ?_
  rw [f41b_eq]
  refine aw_then ?_
  rw [f41ba_eq]
  refine aw_reg ?_
  refine aops_go 1 60 (by kernel_rfl) ?_
  refine aops_end (by kernel_rfl) (then_normal ?_)
  rw [f41bc_eq]
  refine aw_then ?_
  rw [f41bca_eq]
  refine aw_then ?_
  rw [f41bcaa_eq]
  refine aw_reg ?_
  refine aops_go 1 60 (by kernel_rfl) ?_
  refine aops_end (by kernel_rfl) (then_normal ?_)
  rw [f41bcac_eq]
  refine aw_block ?_
  rw [f41bcaca_eq]
  refine aw_then ?_
  rw [f41bcacaa_eq]
  refine aw_reg ?_
  refine aops_go 2 60 (by kernel_rfl) ?_
  refine aops_end (by kernel_rfl) (then_normal ?_)
  rw [f41bcacac_eq]
  refine aw_cond (t := false) (see_bool (by kernel_rfl) ((by simp; omega) : (((op : Int) == 16)) = false)) ?_
  rw [f41bcacacc_eq]
  refine aw_then ?_
  rw [f41bcacacca_eq]
  refine aw_reg ?_
  refine aops_go 2 60 (by kernel_rfl) ?_
  refine aops_end (by kernel_rfl) (then_normal ?_)
  rw [f41bcacaccc_eq]
  refine aw_cond (t := false) (see_bool (by kernel_rfl) ((by simp; omega) : (((op : Int) == 17)) = false)) ?_
  rw [f41bcacacccc_eq]
  refine aw_then ?_
  rw [f41bcacacccca_eq]
  refine aw_reg ?_
  refine aops_go 2 60 (by kernel_rfl) ?_
  refine aops_end (by kernel_rfl) (then_normal ?_)
  rw [f41bcacaccccc_eq]
  refine aw_cond (t := false) (see_bool (by kernel_rfl) ((by simp; omega) : (((op : Int) == 18)) = false)) ?_
  rw [f41bcacacccccc_eq]
  refine aw_then ?_
  rw [f41bcacacccccca_eq]
  refine aw_reg ?_
  refine aops_go 2 60 (by kernel_rfl) ?_
  refine aops_end (by kernel_rfl) (then_normal ?_)
  rw [f41bcacaccccccc_eq]
  refine aw_cond (t := false) (see_bool (by kernel_rfl) ((by simp; omega) : (((op : Int) == 19)) = false)) ?_
  rw [f41bcacacccccccc_eq]
  refine aw_then ?_
  rw [f41bcacacccccccca_eq]
  refine aw_reg ?_
  refine aops_go 2 60 (by kernel_rfl) ?_
  refine aops_end (by kernel_rfl) (then_normal ?_)
  rw [f41bcacaccccccccc_eq]
  refine aw_cond (t := false) (see_bool (by kernel_rfl) ((by simp; omega) : (((op : Int) == 20)) = false)) ?_
  rw [f41bcacacccccccccc_eq]
  refine aw_then ?_
  rw [f41bcacacccccccccca_eq]
  refine aw_reg ?_
  refine aops_go 2 60 (by kernel_rfl) ?_
  refine aops_end (by kernel_rfl) (then_normal ?_)
  rw [f41bcacaccccccccccc_eq]
  refine aw_cond (t := false) (see_bool (by kernel_rfl) ((by simp; omega) : (((op : Int) == 21)) = false)) ?_
  rw [f41bcacacccccccccccc_eq]
  refine aw_then ?_
  rw [f41bcacacccccccccccca_eq]
  refine aw_reg ?_
  refine aops_go 2 60 (by kernel_rfl) ?_
  refine aops_end (by kernel_rfl) (then_normal ?_)
  rw [f41bcacaccccccccccccc_eq]
  refine aw_cond (t := false) (see_bool (by kernel_rfl) ((by simp; omega) : (((op : Int) == 22)) = false)) ?_
  rw [f41bcacacccccccccccccc_eq]
  refine aw_then ?_
  rw [f41bcacacccccccccccccca_eq]
  refine aw_reg ?_
  refine aops_go 2 60 (by kernel_rfl) ?_
  refine aops_end (by kernel_rfl) (then_normal ?_)
  rw [f41bcacaccccccccccccccc_eq]
  refine aw_cond (t := false) (see_bool (by kernel_rfl) ((by simp; omega) : (((op : Int) == 23)) = false)) ?_
  rw [f41bcacacccccccccccccccc_eq]
  refine aw_then ?_
  rw [f41bcacacccccccccccccccca_eq]
  refine aw_reg ?_
  refine aops_go 2 60 (by kernel_rfl) ?_
  refine aops_end (by kernel_rfl) (then_normal ?_)
  rw [f41bcacaccccccccccccccccc_eq]
  refine aw_cond (t := false) (see_bool (by kernel_rfl) ((by simp; omega) : (((op : Int) == 24)) = false)) ?_
  rw [f41bcacacccccccccccccccccc_eq]
  refine aw_then ?_
  rw [f41bcacacccccccccccccccccca_eq]
  refine aw_reg ?_
  refine aops_go 2 60 (by kernel_rfl) ?_
  refine aops_end (by kernel_rfl) (then_normal ?_)
  rw [f41bcacaccccccccccccccccccc_eq]
  refine aw_cond (t := false) (see_bool (by kernel_rfl) ((by simp; omega) : (((op : Int) == 25)) = false)) ?_
  rw [f41bcacacccccccccccccccccccc_eq]
  refine aw_then ?_
  rw [f41bcacacccccccccccccccccccca_eq]
  refine aw_reg ?_
  refine aops_go 2 60 (by kernel_rfl) ?_
  refine aops_end (by kernel_rfl) (then_normal ?_)
  rw [f41bcacaccccccccccccccccccccc_eq]
  refine aw_cond (t := false) (see_bool (by kernel_rfl) ((by simp; omega) : (((op : Int) == 48)) = false)) ?_
  rw [f41bcacacccccccccccccccccccccc_eq]
  refine aw_then ?_
  rw [f41bcacacccccccccccccccccccccca_eq]
  refine aw_reg ?_
  refine aops_go 2 60 (by kernel_rfl) ?_
  refine aops_end (by kernel_rfl) (then_normal ?_)
  rw [f41bcacaccccccccccccccccccccccc_eq]
  refine aw_cond (t := false) (see_bool (by kernel_rfl) ((by simp; omega) : (((op : Int) == 49)) = false)) ?_
  rw [f41bcacacccccccccccccccccccccccc_eq]
  refine aw_then ?_
  rw [f41bcacacccccccccccccccccccccccca_eq]
  refine aw_reg ?_
  refine aops_go 2 60 (by kernel_rfl) ?_
  refine aops_end (by kernel_rfl) (then_normal ?_)
  rw [f41bcacaccccccccccccccccccccccccc_eq]
  refine aw_cond (t := false) (see_bool (by kernel_rfl) ((by simp; omega) : (((op : Int) == 50)) = false)) ?_
  rw [f41bcacacccccccccccccccccccccccccc_eq]
  refine aw_then ?_
  rw [f41bcacacccccccccccccccccccccccccca_eq]
  refine aw_reg ?_
  refine aops_go 2 60 (by kernel_rfl) ?_
  refine aops_end (by kernel_rfl) (then_normal ?_)
  rw [f41bcacaccccccccccccccccccccccccccc_eq]
  refine aw_cond (t := false) (see_bool (by kernel_rfl) ((by simp; omega) : (((op : Int) == 51)) = false)) ?_
  rw [f41bcacacccccccccccccccccccccccccccc_eq]
  refine aw_then ?_
  rw [f41bcacacccccccccccccccccccccccccccca_eq]
  refine aw_reg ?_
  refine aops_go 2 60 (by kernel_rfl) ?_
  refine aops_end (by kernel_rfl) (then_normal ?_)
  rw [f41bcacaccccccccccccccccccccccccccccc_eq]
  refine aw_cond (t := false) (see_bool (by kernel_rfl) ((by simp; omega) : (((op : Int) == 52)) = false)) ?_
  rw [f41bcacacccccccccccccccccccccccccccccc_eq]
  refine aw_then ?_
  rw [f41bcacacccccccccccccccccccccccccccccca_eq]
  refine aw_reg ?_
  refine aops_go 2 60 (by kernel_rfl) ?_
  refine aops_end (by kernel_rfl) (then_normal ?_)
  rw [f41bcacaccccccccccccccccccccccccccccccc_eq]
  refine aw_cond (t := false) (see_bool (by kernel_rfl) ((by simp; omega) : (((op : Int) == 53)) = false)) ?_
  rw [f41bcacacccccccccccccccccccccccccccccccc_eq]
  refine aw_then ?_
  rw [f41bcacacccccccccccccccccccccccccccccccca_eq]
  refine aw_reg ?_
  refine aops_go 2 60 (by kernel_rfl) ?_
  refine aops_end (by kernel_rfl) (then_normal ?_)
  rw [f41bcacaccccccccccccccccccccccccccccccccc_eq]
  refine aw_cond (t := false) (see_bool (by kernel_rfl) ((by simp; omega) : (((op : Int) == 64)) = false)) ?_
  rw [f41bcacacccccccccccccccccccccccccccccccccc_eq]
  refine aw_then ?_
  rw [f41bcacacccccccccccccccccccccccccccccccccca_eq]
  refine aw_reg ?_
  refine aops_go 2 60 (by kernel_rfl) ?_
  refine aops_end (by kernel_rfl) (then_normal ?_)
  rw [f41bcacaccccccccccccccccccccccccccccccccccc_eq]
  refine aw_cond (t := false) (see_bool (by kernel_rfl) ((by simp; omega) : (((op : Int) == 65)) = false)) ?_
  rw [f41bcacacccccccccccccccccccccccccccccccccccc_eq]
  refine aw_then ?_
  rw [f41bcacacccccccccccccccccccccccccccccccccccca_eq]
  refine aw_reg ?_
  refine aops_go 2 60 (by kernel_rfl) ?_
  refine aops_end (by kernel_rfl) (then_normal ?_)
  rw [f41bcacaccccccccccccccccccccccccccccccccccccc_eq]
  refine aw_cond (t := false) (see_bool (by kernel_rfl) ((by simp; omega) : (((op : Int) == 66)) = false)) ?_
  rw [f41bcacacccccccccccccccccccccccccccccccccccccc_eq]
  refine aw_then ?_
  rw [f41bcacacccccccccccccccccccccccccccccccccccccca_eq]
  refine aw_reg ?_
  refine aops_go 2 60 (by kernel_rfl) ?_
  refine aops_end (by kernel_rfl) (then_normal ?_)
  rw [f41bcacaccccccccccccccccccccccccccccccccccccccc_eq]
  refine aw_cond (t := false) (see_bool (by kernel_rfl) ((by simp; omega) : (((op : Int) == 67)) = false)) ?_
  rw [f41bcacacccccccccccccccccccccccccccccccccccccccc_eq]
  refine aw_then ?_
  rw [f41bcacacccccccccccccccccccccccccccccccccccccccca_eq]
  refine aw_reg ?_
  refine aops_go 2 60 (by kernel_rfl) ?_
  refine aops_end (by kernel_rfl) (then_normal ?_)
  rw [f41bcacaccccccccccccccccccccccccccccccccccccccccc_eq]
  refine aw_cond (t := false) (see_bool (by kernel_rfl) ((by simp; omega) : (((op : Int) == 68)) = false)) ?_
  rw [f41bcacacccccccccccccccccccccccccccccccccccccccccc_eq]
  refine aw_then ?_
  rw [f41bcacacccccccccccccccccccccccccccccccccccccccccca_eq]
  refine aw_reg ?_
  refine aops_go 2 60 (by kernel_rfl) ?_
  refine aops_end (by kernel_rfl) (then_normal ?_)
  rw [f41bcacaccccccccccccccccccccccccccccccccccccccccccc_eq]
  refine aw_cond (t := false) (see_bool (by kernel_rfl) ((by simp; omega) : (((op : Int) == 69)) = false)) ?_
  refine aw_skip (blk_normal (then_normal ?_))
  rw [f41bcc_eq]
  refine aw_then ?_
  rw [f41bcca_eq]
  refine aw_reg ?_
  refine aops_go 1 60 (by kernel_rfl) ?_
  refine aops_end (by kernel_rfl) (then_normal ?_)
  refine aw_ret (bodyQ_ret ⟨.string ⟨⟨[]⟩⟩, (by kernel_rfl), ?_⟩)
  first
  | (simp only [otherV, inT_hi h, cond_false]; done)
  | (simp only [otherV, inT_hi h, cond_false]; congr 1; simp; omega)
theorem f41_any (op : Int) : ACall Tryd.prog T0 41 #[.int .i64 op] ⟨.lf, 0⟩ fun r _ => r = .string (otherV op) := by
  by_cases h : op < 0
  · exact f41_lo h
  · by_cases h2 : 70 ≤ op
    · exact f41_hi (by omega)
    · exact acall_range (N := 70) (k := 300) (g := fun op => .string (otherV op)) (by kernel_rfl) (by omega) (by omega)
def sp41 : List Value → Option Value
  | [.int .i64 op] => some (.string (otherV op))
  | _ => none
noncomputable def T1 : Tab := { T0 with orc := addOrc T0.orc 41 sp41 }
theorem progOk1 [Bs] : ProgOk Tryd.prog T1 := progOk0.know 41 sp41 fun args v h => by
  unfold sp41 at h
  split at h
  · cases h; exact ⟨rfl, rfl, f41_any _⟩
  · cases h
noncomputable def f38b : Code := Tryd.f38.body.getD .skip
noncomputable def f38ba : Code := cl f38b
noncomputable def f38bao : Array Oper := opsOf f38ba
noncomputable def f38bc : Code := cr f38b
noncomputable def f38bca : Code := cl f38bc
noncomputable def f38bcaa : Code := cl f38bca
noncomputable def f38bcaao : Array Oper := opsOf f38bcaa
noncomputable def f38bcac : Code := cr f38bca
noncomputable def f38bcaca : Code := cl f38bcac
noncomputable def f38bcacaa : Code := cl f38bcaca
noncomputable def f38bcacaao : Array Oper := opsOf f38bcacaa
noncomputable def f38bcacac : Code := cr f38bcaca
noncomputable def f38bcacaca : Code := cl f38bcacac
noncomputable def f38bcacacaa : Code := cl f38bcacaca
noncomputable def f38bcacacaao : Array Oper := opsOf f38bcacacaa
noncomputable def f38bcacacc : Code := cr f38bcacac
noncomputable def f38bcacacca : Code := cl f38bcacacc
noncomputable def f38bcacaccao : Array Oper := opsOf f38bcacacca
noncomputable def f38bcacaccc : Code := cr f38bcacacc
noncomputable def f38bcacaccca : Code := cl f38bcacaccc
noncomputable def f38bcacacccaa : Code := cl f38bcacaccca
noncomputable def f38bcacacccaao : Array Oper := opsOf f38bcacacccaa
noncomputable def f38bcacacccc : Code := cr f38bcacaccc
noncomputable def f38bcacacccca : Code := cl f38bcacacccc
noncomputable def f38bcacaccccao : Array Oper := opsOf f38bcacacccca
noncomputable def f38bcacaccccc : Code := cr f38bcacacccc
noncomputable def f38bcacaccccca : Code := cl f38bcacaccccc
noncomputable def f38bcacacccccaa : Code := cl f38bcacaccccca
noncomputable def f38bcacacccccaao : Array Oper := opsOf f38bcacacccccaa
noncomputable def f38bcacacccccc : Code := cr f38bcacaccccc
noncomputable def f38bcacacccccca : Code := cl f38bcacacccccc
noncomputable def f38bcacaccccccao : Array Oper := opsOf f38bcacacccccca
noncomputable def f38bcacaccccccc : Code := cr f38bcacacccccc
noncomputable def f38bcacaccccccca : Code := cl f38bcacaccccccc
noncomputable def f38bcacacccccccaa : Code := cl f38bcacaccccccca
noncomputable def f38bcacacccccccaao : Array Oper := opsOf f38bcacacccccccaa
noncomputable def f38bcacacccccccc : Code := cr f38bcacaccccccc
noncomputable def f38bcacacccccccca : Code := cl f38bcacacccccccc
noncomputable def f38bcacaccccccccao : Array Oper := opsOf f38bcacacccccccca
noncomputable def f38bcacaccccccccc : Code := cr f38bcacacccccccc
noncomputable def f38bcacaccccccccca : Code := cl f38bcacaccccccccc
noncomputable def f38bcacacccccccccaa : Code := cl f38bcacaccccccccca
noncomputable def f38bcacacccccccccaao : Array Oper := opsOf f38bcacacccccccccaa
noncomputable def f38bcacacccccccccc : Code := cr f38bcacaccccccccc
noncomputable def f38bcacacccccccccca : Code := cl f38bcacacccccccccc
noncomputable def f38bcacaccccccccccao : Array Oper := opsOf f38bcacacccccccccca
noncomputable def f38bcacaccccccccccc : Code := cr f38bcacacccccccccc
noncomputable def f38bcacaccccccccccca : Code := cl f38bcacaccccccccccc
noncomputable def f38bcacacccccccccccaa : Code := cl f38bcacaccccccccccca
noncomputable def f38bcacacccccccccccaao : Array Oper := opsOf f38bcacacccccccccccaa
noncomputable def f38bcacacccccccccccc : Code := cr f38bcacaccccccccccc
noncomputable def f38bcacacccccccccccca : Code := cl f38bcacacccccccccccc
noncomputable def f38bcacaccccccccccccao : Array Oper := opsOf f38bcacacccccccccccca
noncomputable def f38bcacaccccccccccccc : Code := cr f38bcacacccccccccccc
noncomputable def f38bcacaccccccccccccca : Code := cl f38bcacaccccccccccccc
noncomputable def f38bcacacccccccccccccaa : Code := cl f38bcacaccccccccccccca
noncomputable def f38bcacacccccccccccccaao : Array Oper := opsOf f38bcacacccccccccccccaa
noncomputable def f38bcacacccccccccccccc : Code := cr f38bcacaccccccccccccc
noncomputable def f38bcacacccccccccccccca : Code := cl f38bcacacccccccccccccc
noncomputable def f38bcacaccccccccccccccao : Array Oper := opsOf f38bcacacccccccccccccca
noncomputable def f38bcacaccccccccccccccc : Code := cr f38bcacacccccccccccccc
noncomputable def f38bcacaccccccccccccccca : Code := cl f38bcacaccccccccccccccc
noncomputable def f38bcacacccccccccccccccaa : Code := cl f38bcacaccccccccccccccca
noncomputable def f38bcacacccccccccccccccaao : Array Oper := opsOf f38bcacacccccccccccccccaa
noncomputable def f38bcacacccccccccccccccc : Code := cr f38bcacaccccccccccccccc
noncomputable def f38bcacacccccccccccccccca : Code := cl f38bcacacccccccccccccccc
noncomputable def f38bcacaccccccccccccccccao : Array Oper := opsOf f38bcacacccccccccccccccca
noncomputable def f38bcacaccccccccccccccccc : Code := cr f38bcacacccccccccccccccc
noncomputable def f38bcacaccccccccccccccccca : Code := cl f38bcacaccccccccccccccccc
noncomputable def f38bcacacccccccccccccccccaa : Code := cl f38bcacaccccccccccccccccca
noncomputable def f38bcacacccccccccccccccccaao : Array Oper := opsOf f38bcacacccccccccccccccccaa
noncomputable def f38bcacacccccccccccccccccc : Code := cr f38bcacaccccccccccccccccc
noncomputable def f38bcacacccccccccccccccccca : Code := cl f38bcacacccccccccccccccccc
noncomputable def f38bcacaccccccccccccccccccao : Array Oper := opsOf f38bcacacccccccccccccccccca
noncomputable def f38bcacaccccccccccccccccccc : Code := cr f38bcacacccccccccccccccccc
noncomputable def f38bcacaccccccccccccccccccca : Code := cl f38bcacaccccccccccccccccccc
noncomputable def f38bcacacccccccccccccccccccaa : Code := cl f38bcacaccccccccccccccccccca
noncomputable def f38bcacacccccccccccccccccccaao : Array Oper := opsOf f38bcacacccccccccccccccccccaa
noncomputable def f38bcacacccccccccccccccccccc : Code := cr f38bcacaccccccccccccccccccc
noncomputable def f38bcacacccccccccccccccccccca : Code := cl f38bcacacccccccccccccccccccc
noncomputable def f38bcacaccccccccccccccccccccao : Array Oper := opsOf f38bcacacccccccccccccccccccca
noncomputable def f38bcacaccccccccccccccccccccc : Code := cr f38bcacacccccccccccccccccccc
noncomputable def f38bcacaccccccccccccccccccccca : Code := cl f38bcacaccccccccccccccccccccc
noncomputable def f38bcacacccccccccccccccccccccaa : Code := cl f38bcacaccccccccccccccccccccca
noncomputable def f38bcacacccccccccccccccccccccaao : Array Oper := opsOf f38bcacacccccccccccccccccccccaa
noncomputable def f38bcacacccccccccccccccccccccc : Code := cr f38bcacaccccccccccccccccccccc
noncomputable def f38bcacacccccccccccccccccccccca : Code := cl f38bcacacccccccccccccccccccccc
noncomputable def f38bcacaccccccccccccccccccccccao : Array Oper := opsOf f38bcacacccccccccccccccccccccca
noncomputable def f38bcacaccccccccccccccccccccccc : Code := cr f38bcacacccccccccccccccccccccc
noncomputable def f38bcacaccccccccccccccccccccccca : Code := cl f38bcacaccccccccccccccccccccccc
noncomputable def f38bcacacccccccccccccccccccccccaa : Code := cl f38bcacaccccccccccccccccccccccca
noncomputable def f38bcacacccccccccccccccccccccccaao : Array Oper := opsOf f38bcacacccccccccccccccccccccccaa
noncomputable def f38bcacacccccccccccccccccccccccc : Code := cr f38bcacaccccccccccccccccccccccc
noncomputable def f38bcacacccccccccccccccccccccccca : Code := cl f38bcacacccccccccccccccccccccccc
noncomputable def f38bcacaccccccccccccccccccccccccao : Array Oper := opsOf f38bcacacccccccccccccccccccccccca
noncomputable def f38bcacaccccccccccccccccccccccccc : Code := cr f38bcacacccccccccccccccccccccccc
noncomputable def f38bcacaccccccccccccccccccccccccca : Code := cl f38bcacaccccccccccccccccccccccccc
noncomputable def f38bcacacccccccccccccccccccccccccaa : Code := cl f38bcacaccccccccccccccccccccccccca
noncomputable def f38bcacacccccccccccccccccccccccccaao : Array Oper := opsOf f38bcacacccccccccccccccccccccccccaa
noncomputable def f38bcacacccccccccccccccccccccccccc : Code := cr f38bcacaccccccccccccccccccccccccc
noncomputable def f38bcacacccccccccccccccccccccccccca : Code := cl f38bcacacccccccccccccccccccccccccc
noncomputable def f38bcacaccccccccccccccccccccccccccao : Array Oper := opsOf f38bcacacccccccccccccccccccccccccca
noncomputable def f38bcacaccccccccccccccccccccccccccc : Code := cr f38bcacacccccccccccccccccccccccccc
noncomputable def f38bcacaccccccccccccccccccccccccccca : Code := cl f38bcacaccccccccccccccccccccccccccc
noncomputable def f38bcacacccccccccccccccccccccccccccaa : Code := cl f38bcacaccccccccccccccccccccccccccca
noncomputable def f38bcacacccccccccccccccccccccccccccaao : Array Oper := opsOf f38bcacacccccccccccccccccccccccccccaa
noncomputable def f38bcacacccccccccccccccccccccccccccc : Code := cr f38bcacaccccccccccccccccccccccccccc
noncomputable def f38bcacacccccccccccccccccccccccccccca : Code := cl f38bcacacccccccccccccccccccccccccccc
noncomputable def f38bcacaccccccccccccccccccccccccccccao : Array Oper := opsOf f38bcacacccccccccccccccccccccccccccca
noncomputable def f38bcacaccccccccccccccccccccccccccccc : Code := cr f38bcacacccccccccccccccccccccccccccc
noncomputable def f38bcacaccccccccccccccccccccccccccccca : Code := cl f38bcacaccccccccccccccccccccccccccccc
noncomputable def f38bcacacccccccccccccccccccccccccccccaa : Code := cl f38bcacaccccccccccccccccccccccccccccca
noncomputable def f38bcacacccccccccccccccccccccccccccccaao : Array Oper := opsOf f38bcacacccccccccccccccccccccccccccccaa
noncomputable def f38bcacacccccccccccccccccccccccccccccc : Code := cr f38bcacaccccccccccccccccccccccccccccc
noncomputable def f38bcacacccccccccccccccccccccccccccccca : Code := cl f38bcacacccccccccccccccccccccccccccccc
noncomputable def f38bcacaccccccccccccccccccccccccccccccao : Array Oper := opsOf f38bcacacccccccccccccccccccccccccccccca
noncomputable def f38bcacaccccccccccccccccccccccccccccccc : Code := cr f38bcacacccccccccccccccccccccccccccccc
noncomputable def f38bcacaccccccccccccccccccccccccccccccca : Code := cl f38bcacaccccccccccccccccccccccccccccccc
noncomputable def f38bcacacccccccccccccccccccccccccccccccaa : Code := cl f38bcacaccccccccccccccccccccccccccccccca
noncomputable def f38bcacacccccccccccccccccccccccccccccccaao : Array Oper := opsOf f38bcacacccccccccccccccccccccccccccccccaa
noncomputable def f38bcacacccccccccccccccccccccccccccccccc : Code := cr f38bcacaccccccccccccccccccccccccccccccc
noncomputable def f38bcacacccccccccccccccccccccccccccccccca : Code := cl f38bcacacccccccccccccccccccccccccccccccc
noncomputable def f38bcacaccccccccccccccccccccccccccccccccao : Array Oper := opsOf f38bcacacccccccccccccccccccccccccccccccca
noncomputable def f38bcacaccccccccccccccccccccccccccccccccc : Code := cr f38bcacacccccccccccccccccccccccccccccccc
noncomputable def f38bcacaccccccccccccccccccccccccccccccccca : Code := cl f38bcacaccccccccccccccccccccccccccccccccc
noncomputable def f38bcacacccccccccccccccccccccccccccccccccaa : Code := cl f38bcacaccccccccccccccccccccccccccccccccca
noncomputable def f38bcacacccccccccccccccccccccccccccccccccaao : Array Oper := opsOf f38bcacacccccccccccccccccccccccccccccccccaa
noncomputable def f38bcacacccccccccccccccccccccccccccccccccc : Code := cr f38bcacaccccccccccccccccccccccccccccccccc
noncomputable def f38bcacacccccccccccccccccccccccccccccccccca : Code := cl f38bcacacccccccccccccccccccccccccccccccccc
noncomputable def f38bcacaccccccccccccccccccccccccccccccccccao : Array Oper := opsOf f38bcacacccccccccccccccccccccccccccccccccca
noncomputable def f38bcacaccccccccccccccccccccccccccccccccccc : Code := cr f38bcacacccccccccccccccccccccccccccccccccc
noncomputable def f38bcacaccccccccccccccccccccccccccccccccccca : Code := cl f38bcacaccccccccccccccccccccccccccccccccccc
noncomputable def f38bcacacccccccccccccccccccccccccccccccccccaa : Code := cl f38bcacaccccccccccccccccccccccccccccccccccca
noncomputable def f38bcacacccccccccccccccccccccccccccccccccccaao : Array Oper := opsOf f38bcacacccccccccccccccccccccccccccccccccccaa
noncomputable def f38bcc : Code := cr f38bc
noncomputable def f38bcca : Code := cl f38bcc
noncomputable def f38bccao : Array Oper := opsOf f38bcca
theorem f38ba_eq : f38ba = .region 0 f38bao false := by kernel_rfl
theorem f38bcaa_eq : f38bcaa = .region 1 f38bcaao false := by kernel_rfl
theorem f38bcacaa_eq : f38bcacaa = .region 2 f38bcacaao false := by kernel_rfl
theorem f38bcacacaa_eq : f38bcacacaa = .region 3 f38bcacacaao false := by kernel_rfl
theorem f38bcacaca_eq : f38bcacaca = .seq f38bcacacaa .ret := by kernel_rfl
theorem f38bcacacca_eq : f38bcacacca = .region 4 f38bcacaccao false := by kernel_rfl
theorem f38bcacacccaa_eq : f38bcacacccaa = .region 5 f38bcacacccaao false := by kernel_rfl
theorem f38bcacaccca_eq : f38bcacaccca = .seq f38bcacacccaa .ret := by kernel_rfl
theorem f38bcacacccca_eq : f38bcacacccca = .region 6 f38bcacaccccao false := by kernel_rfl
theorem f38bcacacccccaa_eq : f38bcacacccccaa = .region 7 f38bcacacccccaao false := by kernel_rfl
theorem f38bcacaccccca_eq : f38bcacaccccca = .seq f38bcacacccccaa .ret := by kernel_rfl
theorem f38bcacacccccca_eq : f38bcacacccccca = .region 8 f38bcacaccccccao false := by kernel_rfl
theorem f38bcacacccccccaa_eq : f38bcacacccccccaa = .region 9 f38bcacacccccccaao false := by kernel_rfl
theorem f38bcacaccccccca_eq : f38bcacaccccccca = .seq f38bcacacccccccaa .ret := by kernel_rfl
theorem f38bcacacccccccca_eq : f38bcacacccccccca = .region 10 f38bcacaccccccccao false := by kernel_rfl
theorem f38bcacacccccccccaa_eq : f38bcacacccccccccaa = .region 11 f38bcacacccccccccaao false := by kernel_rfl
theorem f38bcacaccccccccca_eq : f38bcacaccccccccca = .seq f38bcacacccccccccaa .ret := by kernel_rfl
theorem f38bcacacccccccccca_eq : f38bcacacccccccccca = .region 12 f38bcacaccccccccccao false := by kernel_rfl
theorem f38bcacacccccccccccaa_eq : f38bcacacccccccccccaa = .region 13 f38bcacacccccccccccaao false := by kernel_rfl
theorem f38bcacaccccccccccca_eq : f38bcacaccccccccccca = .seq f38bcacacccccccccccaa .ret := by kernel_rfl
theorem f38bcacacccccccccccca_eq : f38bcacacccccccccccca = .region 14 f38bcacaccccccccccccao false := by kernel_rfl
theorem f38bcacacccccccccccccaa_eq : f38bcacacccccccccccccaa = .region 15 f38bcacacccccccccccccaao false := by kernel_rfl
theorem f38bcacaccccccccccccca_eq : f38bcacaccccccccccccca = .seq f38bcacacccccccccccccaa .ret := by kernel_rfl
theorem f38bcacacccccccccccccca_eq : f38bcacacccccccccccccca = .region 16 f38bcacaccccccccccccccao false := by kernel_rfl
theorem f38bcacacccccccccccccccaa_eq : f38bcacacccccccccccccccaa = .region 17 f38bcacacccccccccccccccaao false := by kernel_rfl
theorem f38bcacaccccccccccccccca_eq : f38bcacaccccccccccccccca = .seq f38bcacacccccccccccccccaa .ret := by kernel_rfl
theorem f38bcacacccccccccccccccca_eq : f38bcacacccccccccccccccca = .region 18 f38bcacaccccccccccccccccao false := by kernel_rfl
theorem f38bcacacccccccccccccccccaa_eq : f38bcacacccccccccccccccccaa = .region 19 f38bcacacccccccccccccccccaao false := by kernel_rfl
theorem f38bcacaccccccccccccccccca_eq : f38bcacaccccccccccccccccca = .seq f38bcacacccccccccccccccccaa .ret := by kernel_rfl
theorem f38bcacacccccccccccccccccca_eq : f38bcacacccccccccccccccccca = .region 20 f38bcacaccccccccccccccccccao false := by kernel_rfl
theorem f38bcacacccccccccccccccccccaa_eq : f38bcacacccccccccccccccccccaa = .region 21 f38bcacacccccccccccccccccccaao false := by kernel_rfl
theorem f38bcacaccccccccccccccccccca_eq : f38bcacaccccccccccccccccccca = .seq f38bcacacccccccccccccccccccaa .ret := by kernel_rfl
theorem f38bcacacccccccccccccccccccca_eq : f38bcacacccccccccccccccccccca = .region 22 f38bcacaccccccccccccccccccccao false := by kernel_rfl
theorem f38bcacacccccccccccccccccccccaa_eq : f38bcacacccccccccccccccccccccaa = .region 23 f38bcacacccccccccccccccccccccaao false := by kernel_rfl
theorem f38bcacaccccccccccccccccccccca_eq : f38bcacaccccccccccccccccccccca = .seq f38bcacacccccccccccccccccccccaa .ret := by kernel_rfl
theorem f38bcacacccccccccccccccccccccca_eq : f38bcacacccccccccccccccccccccca = .region 24 f38bcacaccccccccccccccccccccccao false := by kernel_rfl
theorem f38bcacacccccccccccccccccccccccaa_eq : f38bcacacccccccccccccccccccccccaa = .region 25 f38bcacacccccccccccccccccccccccaao false := by kernel_rfl
theorem f38bcacaccccccccccccccccccccccca_eq : f38bcacaccccccccccccccccccccccca = .seq f38bcacacccccccccccccccccccccccaa .ret := by kernel_rfl
theorem f38bcacacccccccccccccccccccccccca_eq : f38bcacacccccccccccccccccccccccca = .region 26 f38bcacaccccccccccccccccccccccccao false := by kernel_rfl
theorem f38bcacacccccccccccccccccccccccccaa_eq : f38bcacacccccccccccccccccccccccccaa = .region 27 f38bcacacccccccccccccccccccccccccaao false := by kernel_rfl
theorem f38bcacaccccccccccccccccccccccccca_eq : f38bcacaccccccccccccccccccccccccca = .seq f38bcacacccccccccccccccccccccccccaa .ret := by kernel_rfl
theorem f38bcacacccccccccccccccccccccccccca_eq : f38bcacacccccccccccccccccccccccccca = .region 28 f38bcacaccccccccccccccccccccccccccao false := by kernel_rfl
theorem f38bcacacccccccccccccccccccccccccccaa_eq : f38bcacacccccccccccccccccccccccccccaa = .region 29 f38bcacacccccccccccccccccccccccccccaao false := by kernel_rfl
theorem f38bcacaccccccccccccccccccccccccccca_eq : f38bcacaccccccccccccccccccccccccccca = .seq f38bcacacccccccccccccccccccccccccccaa .ret := by kernel_rfl
theorem f38bcacacccccccccccccccccccccccccccca_eq : f38bcacacccccccccccccccccccccccccccca = .region 30 f38bcacaccccccccccccccccccccccccccccao false := by kernel_rfl
theorem f38bcacacccccccccccccccccccccccccccccaa_eq : f38bcacacccccccccccccccccccccccccccccaa = .region 31 f38bcacacccccccccccccccccccccccccccccaao false := by kernel_rfl
theorem f38bcacaccccccccccccccccccccccccccccca_eq : f38bcacaccccccccccccccccccccccccccccca = .seq f38bcacacccccccccccccccccccccccccccccaa .ret := by kernel_rfl
theorem f38bcacacccccccccccccccccccccccccccccca_eq : f38bcacacccccccccccccccccccccccccccccca = .region 32 f38bcacaccccccccccccccccccccccccccccccao false := by kernel_rfl
theorem f38bcacacccccccccccccccccccccccccccccccaa_eq : f38bcacacccccccccccccccccccccccccccccccaa = .region 33 f38bcacacccccccccccccccccccccccccccccccaao false := by kernel_rfl
theorem f38bcacaccccccccccccccccccccccccccccccca_eq : f38bcacaccccccccccccccccccccccccccccccca = .seq f38bcacacccccccccccccccccccccccccccccccaa .ret := by kernel_rfl
theorem f38bcacacccccccccccccccccccccccccccccccca_eq : f38bcacacccccccccccccccccccccccccccccccca = .region 34 f38bcacaccccccccccccccccccccccccccccccccao false := by kernel_rfl
theorem f38bcacacccccccccccccccccccccccccccccccccaa_eq : f38bcacacccccccccccccccccccccccccccccccccaa = .region 35 f38bcacacccccccccccccccccccccccccccccccccaao false := by kernel_rfl
theorem f38bcacaccccccccccccccccccccccccccccccccca_eq : f38bcacaccccccccccccccccccccccccccccccccca = .seq f38bcacacccccccccccccccccccccccccccccccccaa .ret := by kernel_rfl
theorem f38bcacacccccccccccccccccccccccccccccccccca_eq : f38bcacacccccccccccccccccccccccccccccccccca = .region 36 f38bcacaccccccccccccccccccccccccccccccccccao false := by kernel_rfl
theorem f38bcacacccccccccccccccccccccccccccccccccccaa_eq : f38bcacacccccccccccccccccccccccccccccccccccaa = .region 37 f38bcacacccccccccccccccccccccccccccccccccccaao false := by kernel_rfl
theorem f38bcacaccccccccccccccccccccccccccccccccccca_eq : f38bcacaccccccccccccccccccccccccccccccccccca = .seq f38bcacacccccccccccccccccccccccccccccccccccaa .ret := by kernel_rfl
theorem f38bcacaccccccccccccccccccccccccccccccccccc_eq : f38bcacaccccccccccccccccccccccccccccccccccc = .cond (cop f38bcacaccccccccccccccccccccccccccccccccccc) f38bcacaccccccccccccccccccccccccccccccccccca .skip := by kernel_rfl
theorem f38bcacacccccccccccccccccccccccccccccccccc_eq : f38bcacacccccccccccccccccccccccccccccccccc = .seq f38bcacacccccccccccccccccccccccccccccccccca f38bcacaccccccccccccccccccccccccccccccccccc := by kernel_rfl
theorem f38bcacaccccccccccccccccccccccccccccccccc_eq : f38bcacaccccccccccccccccccccccccccccccccc = .cond (cop f38bcacaccccccccccccccccccccccccccccccccc) f38bcacaccccccccccccccccccccccccccccccccca f38bcacacccccccccccccccccccccccccccccccccc := by kernel_rfl
theorem f38bcacacccccccccccccccccccccccccccccccc_eq : f38bcacacccccccccccccccccccccccccccccccc = .seq f38bcacacccccccccccccccccccccccccccccccca f38bcacaccccccccccccccccccccccccccccccccc := by kernel_rfl
theorem f38bcacaccccccccccccccccccccccccccccccc_eq : f38bcacaccccccccccccccccccccccccccccccc = .cond (cop f38bcacaccccccccccccccccccccccccccccccc) f38bcacaccccccccccccccccccccccccccccccca f38bcacacccccccccccccccccccccccccccccccc := by kernel_rfl
theorem f38bcacacccccccccccccccccccccccccccccc_eq : f38bcacacccccccccccccccccccccccccccccc = .seq f38bcacacccccccccccccccccccccccccccccca f38bcacaccccccccccccccccccccccccccccccc := by kernel_rfl
theorem f38bcacaccccccccccccccccccccccccccccc_eq : f38bcacaccccccccccccccccccccccccccccc = .cond (cop f38bcacaccccccccccccccccccccccccccccc) f38bcacaccccccccccccccccccccccccccccca f38bcacacccccccccccccccccccccccccccccc := by kernel_rfl
theorem f38bcacacccccccccccccccccccccccccccc_eq : f38bcacacccccccccccccccccccccccccccc = .seq f38bcacacccccccccccccccccccccccccccca f38bcacaccccccccccccccccccccccccccccc := by kernel_rfl
theorem f38bcacaccccccccccccccccccccccccccc_eq : f38bcacaccccccccccccccccccccccccccc = .cond (cop f38bcacaccccccccccccccccccccccccccc) f38bcacaccccccccccccccccccccccccccca f38bcacacccccccccccccccccccccccccccc := by kernel_rfl
theorem f38bcacacccccccccccccccccccccccccc_eq : f38bcacacccccccccccccccccccccccccc = .seq f38bcacacccccccccccccccccccccccccca f38bcacaccccccccccccccccccccccccccc := by kernel_rfl
theorem f38bcacaccccccccccccccccccccccccc_eq : f38bcacaccccccccccccccccccccccccc = .cond (cop f38bcacaccccccccccccccccccccccccc) f38bcacaccccccccccccccccccccccccca f38bcacacccccccccccccccccccccccccc := by kernel_rfl
theorem f38bcacacccccccccccccccccccccccc_eq : f38bcacacccccccccccccccccccccccc = .seq f38bcacacccccccccccccccccccccccca f38bcacaccccccccccccccccccccccccc := by kernel_rfl
theorem f38bcacaccccccccccccccccccccccc_eq : f38bcacaccccccccccccccccccccccc = .cond (cop f38bcacaccccccccccccccccccccccc) f38bcacaccccccccccccccccccccccca f38bcacacccccccccccccccccccccccc := by kernel_rfl
theorem f38bcacacccccccccccccccccccccc_eq : f38bcacacccccccccccccccccccccc = .seq f38bcacacccccccccccccccccccccca f38bcacaccccccccccccccccccccccc := by kernel_rfl
theorem f38bcacaccccccccccccccccccccc_eq : f38bcacaccccccccccccccccccccc = .cond (cop f38bcacaccccccccccccccccccccc) f38bcacaccccccccccccccccccccca f38bcacacccccccccccccccccccccc := by kernel_rfl
theorem f38bcacacccccccccccccccccccc_eq : f38bcacacccccccccccccccccccc = .seq f38bcacacccccccccccccccccccca f38bcacaccccccccccccccccccccc := by kernel_rfl
theorem f38bcacaccccccccccccccccccc_eq : f38bcacaccccccccccccccccccc = .cond (cop f38bcacaccccccccccccccccccc) f38bcacaccccccccccccccccccca f38bcacacccccccccccccccccccc := by kernel_rfl
theorem f38bcacacccccccccccccccccc_eq : f38bcacacccccccccccccccccc = .seq f38bcacacccccccccccccccccca f38bcacaccccccccccccccccccc := by kernel_rfl
theorem f38bcacaccccccccccccccccc_eq : f38bcacaccccccccccccccccc = .cond (cop f38bcacaccccccccccccccccc) f38bcacaccccccccccccccccca f38bcacacccccccccccccccccc := by kernel_rfl
theorem f38bcacacccccccccccccccc_eq : f38bcacacccccccccccccccc = .seq f38bcacacccccccccccccccca f38bcacaccccccccccccccccc := by kernel_rfl
theorem f38bcacaccccccccccccccc_eq : f38bcacaccccccccccccccc = .cond (cop f38bcacaccccccccccccccc) f38bcacaccccccccccccccca f38bcacacccccccccccccccc := by kernel_rfl
theorem f38bcacacccccccccccccc_eq : f38bcacacccccccccccccc = .seq f38bcacacccccccccccccca f38bcacaccccccccccccccc := by kernel_rfl
theorem f38bcacaccccccccccccc_eq : f38bcacaccccccccccccc = .cond (cop f38bcacaccccccccccccc) f38bcacaccccccccccccca f38bcacacccccccccccccc := by kernel_rfl
theorem f38bcacacccccccccccc_eq : f38bcacacccccccccccc = .seq f38bcacacccccccccccca f38bcacaccccccccccccc := by kernel_rfl
theorem f38bcacaccccccccccc_eq : f38bcacaccccccccccc = .cond (cop f38bcacaccccccccccc) f38bcacaccccccccccca f38bcacacccccccccccc := by kernel_rfl
theorem f38bcacacccccccccc_eq : f38bcacacccccccccc = .seq f38bcacacccccccccca f38bcacaccccccccccc := by kernel_rfl
theorem f38bcacaccccccccc_eq : f38bcacaccccccccc = .cond (cop f38bcacaccccccccc) f38bcacaccccccccca f38bcacacccccccccc := by kernel_rfl
theorem f38bcacacccccccc_eq : f38bcacacccccccc = .seq f38bcacacccccccca f38bcacaccccccccc := by kernel_rfl
theorem f38bcacaccccccc_eq : f38bcacaccccccc = .cond (cop f38bcacaccccccc) f38bcacaccccccca f38bcacacccccccc := by kernel_rfl
theorem f38bcacacccccc_eq : f38bcacacccccc = .seq f38bcacacccccca f38bcacaccccccc := by kernel_rfl
theorem f38bcacaccccc_eq : f38bcacaccccc = .cond (cop f38bcacaccccc) f38bcacaccccca f38bcacacccccc := by kernel_rfl
theorem f38bcacacccc_eq : f38bcacacccc = .seq f38bcacacccca f38bcacaccccc := by kernel_rfl
theorem f38bcacaccc_eq : f38bcacaccc = .cond (cop f38bcacaccc) f38bcacaccca f38bcacacccc := by kernel_rfl
theorem f38bcacacc_eq : f38bcacacc = .seq f38bcacacca f38bcacaccc := by kernel_rfl
theorem f38bcacac_eq : f38bcacac = .cond (cop f38bcacac) f38bcacaca f38bcacacc := by kernel_rfl
theorem f38bcaca_eq : f38bcaca = .seq f38bcacaa f38bcacac := by kernel_rfl
theorem f38bcac_eq : f38bcac = .block 0 f38bcaca := by kernel_rfl
theorem f38bca_eq : f38bca = .seq f38bcaa f38bcac := by kernel_rfl
theorem f38bcca_eq : f38bcca = .region 38 f38bccao false := by kernel_rfl
theorem f38bcc_eq : f38bcc = .seq f38bcca .ret := by kernel_rfl
theorem f38bc_eq : f38bc = .seq f38bca f38bcc := by kernel_rfl
theorem f38b_eq : f38b = .seq f38ba f38bc := by kernel_rfl
theorem f38_body : Tryd.f38.body = some f38b := by kernel_rfl
theorem f38_fn : T1.fn 38 = some Tryd.f38 := by kernel_rfl
theorem f38_lo {op : Int} (h : op < 0) : ACall Tryd.prog T1 38 #[.int .i64 op] ⟨.lf, 0⟩ fun r _ => r = .string (nameV op) := by
  refine acall_of' 42 (initTm 0 #[.int .i64 op]) rfl f38_fn f38_body rfl rfl ?_
  rw [f38b_eq]
  refine aw_then ?_
  rw [f38ba_eq]
  refine aw_reg ?_
  refine aops_go 1 60 (by kernel_rfl) ?_
  refine aops_end (by kernel_rfl) (then_normal ?_)
  rw [f38bc_eq]
  refine aw_then ?_
  rw [f38bca_eq]
  refine aw_then ?_
  rw [f38bcaa_eq]
  refine aw_reg ?_
  refine aops_go 1 60 (by kernel_rfl) ?_
  refine aops_end (by kernel_rfl) (then_normal ?_)
  rw [f38bcac_eq]
  refine aw_block ?_
  rw [f38bcaca_eq]
  refine aw_then ?_
  rw [f38bcacaa_eq]
  refine aw_reg ?_
  refine aops_go 2 60 (by kernel_rfl) ?_
  refine aops_end (by kernel_rfl) (then_normal ?_)
  rw [f38bcacac_eq]
  refine aw_cond (t := false) (see_bool (by kernel_rfl) ((by simp; omega) : (((op : Int) == 0)) = false)) ?_
  rw [f38bcacacc_eq]
  refine aw_then ?_
  rw [f38bcacacca_eq]
  refine aw_reg ?_
  refine aops_go 2 60 (by kernel_rfl) ?_
  refine aops_end (by kernel_rfl) (then_normal ?_)
  rw [f38bcacaccc_eq]
  refine aw_cond (t := false) (see_bool (by kernel_rfl) ((by simp; omega) : (((op : Int) == 1)) = false)) ?_
  rw [f38bcacacccc_eq]
  refine aw_then ?_
  rw [f38bcacacccca_eq]
  refine aw_reg ?_
  refine aops_go 2 60 (by kernel_rfl) ?_
  refine aops_end (by kernel_rfl) (then_normal ?_)
  rw [f38bcacaccccc_eq]
  refine aw_cond (t := false) (see_bool (by kernel_rfl) ((by simp; omega) : (((op : Int) == 2)) = false)) ?_
  rw [f38bcacacccccc_eq]
  refine aw_then ?_
  rw [f38bcacacccccca_eq]
  refine aw_reg ?_
  refine aops_go 2 60 (by kernel_rfl) ?_
  refine aops_end (by kernel_rfl) (then_normal ?_)
  rw [f38bcacaccccccc_eq]
  refine aw_cond (t := false) (see_bool (by kernel_rfl) ((by simp; omega) : (((op : Int) == 3)) = false)) ?_
  rw [f38bcacacccccccc_eq]
  refine aw_then ?_
  rw [f38bcacacccccccca_eq]
  refine aw_reg ?_
  refine aops_go 2 60 (by kernel_rfl) ?_
  refine aops_end (by kernel_rfl) (then_normal ?_)
  rw [f38bcacaccccccccc_eq]
  refine aw_cond (t := false) (see_bool (by kernel_rfl) ((by simp; omega) : (((op : Int) == 4)) = false)) ?_
  rw [f38bcacacccccccccc_eq]
  refine aw_then ?_
  rw [f38bcacacccccccccca_eq]
  refine aw_reg ?_
  refine aops_go 2 60 (by kernel_rfl) ?_
  refine aops_end (by kernel_rfl) (then_normal ?_)
  rw [f38bcacaccccccccccc_eq]
  refine aw_cond (t := false) (see_bool (by kernel_rfl) ((by simp; omega) : (((op : Int) == 5)) = false)) ?_
  rw [f38bcacacccccccccccc_eq]
  refine aw_then ?_
  rw [f38bcacacccccccccccca_eq]
  refine aw_reg ?_
  refine aops_go 2 60 (by kernel_rfl) ?_
  refine aops_end (by kernel_rfl) (then_normal ?_)
  rw [f38bcacaccccccccccccc_eq]
  refine aw_cond (t := false) (see_bool (by kernel_rfl) ((by simp; omega) : (((op : Int) == 6)) = false)) ?_
  rw [f38bcacacccccccccccccc_eq]
  refine aw_then ?_
  rw [f38bcacacccccccccccccca_eq]
  refine aw_reg ?_
  refine aops_go 2 60 (by kernel_rfl) ?_
  refine aops_end (by kernel_rfl) (then_normal ?_)
  rw [f38bcacaccccccccccccccc_eq]
  refine aw_cond (t := false) (see_bool (by kernel_rfl) ((by simp; omega) : (((op : Int) == 7)) = false)) ?_
  rw [f38bcacacccccccccccccccc_eq]
  refine aw_then ?_
  rw [f38bcacacccccccccccccccca_eq]
  refine aw_reg ?_
  refine aops_go 2 60 (by kernel_rfl) ?_
  refine aops_end (by kernel_rfl) (then_normal ?_)
  rw [f38bcacaccccccccccccccccc_eq]
  refine aw_cond (t := false) (see_bool (by kernel_rfl) ((by simp; omega) : (((op : Int) == 8)) = false)) ?_
  rw [f38bcacacccccccccccccccccc_eq]
  refine aw_then ?_
  rw [f38bcacacccccccccccccccccca_eq]
  refine aw_reg ?_
  refine aops_go 2 60 (by kernel_rfl) ?_
  refine aops_end (by kernel_rfl) (then_normal ?_)
  rw [f38bcacaccccccccccccccccccc_eq]
  refine aw_cond (t := false) (see_bool (by kernel_rfl) ((by simp; omega) : (((op : Int) == 32)) = false)) ?_
  rw [f38bcacacccccccccccccccccccc_eq]
  refine aw_then ?_
  rw [f38bcacacccccccccccccccccccca_eq]
  refine aw_reg ?_
  refine aops_go 2 60 (by kernel_rfl) ?_
  refine aops_end (by kernel_rfl) (then_normal ?_)
  rw [f38bcacaccccccccccccccccccccc_eq]
  refine aw_cond (t := false) (see_bool (by kernel_rfl) ((by simp; omega) : (((op : Int) == 33)) = false)) ?_
  rw [f38bcacacccccccccccccccccccccc_eq]
  refine aw_then ?_
  rw [f38bcacacccccccccccccccccccccca_eq]
  refine aw_reg ?_
  refine aops_go 2 60 (by kernel_rfl) ?_
  refine aops_end (by kernel_rfl) (then_normal ?_)
  rw [f38bcacaccccccccccccccccccccccc_eq]
  refine aw_cond (t := false) (see_bool (by kernel_rfl) ((by simp; omega) : (((op : Int) == 34)) = false)) ?_
  rw [f38bcacacccccccccccccccccccccccc_eq]
  refine aw_then ?_
  rw [f38bcacacccccccccccccccccccccccca_eq]
  refine aw_reg ?_
  refine aops_go 2 60 (by kernel_rfl) ?_
  refine aops_end (by kernel_rfl) (then_normal ?_)
  rw [f38bcacaccccccccccccccccccccccccc_eq]
  refine aw_cond (t := false) (see_bool (by kernel_rfl) ((by simp; omega) : (((op : Int) == 35)) = false)) ?_
  rw [f38bcacacccccccccccccccccccccccccc_eq]
  refine aw_then ?_
  rw [f38bcacacccccccccccccccccccccccccca_eq]
  refine aw_reg ?_
  refine aops_go 2 60 (by kernel_rfl) ?_
  refine aops_end (by kernel_rfl) (then_normal ?_)
  rw [f38bcacaccccccccccccccccccccccccccc_eq]
  refine aw_cond (t := false) (see_bool (by kernel_rfl) ((by simp; omega) : (((op : Int) == 36)) = false)) ?_
  rw [f38bcacacccccccccccccccccccccccccccc_eq]
  refine aw_then ?_
  rw [f38bcacacccccccccccccccccccccccccccca_eq]
  refine aw_reg ?_
  refine aops_go 2 60 (by kernel_rfl) ?_
  refine aops_end (by kernel_rfl) (then_normal ?_)
  rw [f38bcacaccccccccccccccccccccccccccccc_eq]
  refine aw_cond (t := false) (see_bool (by kernel_rfl) ((by simp; omega) : (((op : Int) == 37)) = false)) ?_
  rw [f38bcacacccccccccccccccccccccccccccccc_eq]
  refine aw_then ?_
  rw [f38bcacacccccccccccccccccccccccccccccca_eq]
  refine aw_reg ?_
  refine aops_go 2 60 (by kernel_rfl) ?_
  refine aops_end (by kernel_rfl) (then_normal ?_)
  rw [f38bcacaccccccccccccccccccccccccccccccc_eq]
  refine aw_cond (t := false) (see_bool (by kernel_rfl) ((by simp; omega) : (((op : Int) == 38)) = false)) ?_
  rw [f38bcacacccccccccccccccccccccccccccccccc_eq]
  refine aw_then ?_
  rw [f38bcacacccccccccccccccccccccccccccccccca_eq]
  refine aw_reg ?_
  refine aops_go 2 60 (by kernel_rfl) ?_
  refine aops_end (by kernel_rfl) (then_normal ?_)
  rw [f38bcacaccccccccccccccccccccccccccccccccc_eq]
  refine aw_cond (t := false) (see_bool (by kernel_rfl) ((by simp; omega) : (((op : Int) == 39)) = false)) ?_
  rw [f38bcacacccccccccccccccccccccccccccccccccc_eq]
  refine aw_then ?_
  rw [f38bcacacccccccccccccccccccccccccccccccccca_eq]
  refine aw_reg ?_
  refine aops_go 2 60 (by kernel_rfl) ?_
  refine aops_end (by kernel_rfl) (then_normal ?_)
  rw [f38bcacaccccccccccccccccccccccccccccccccccc_eq]
  refine aw_cond (t := false) (see_bool (by kernel_rfl) ((by simp; omega) : (((op : Int) == 40)) = false)) ?_
  refine aw_skip (blk_normal (then_normal ?_))
  rw [f38bcc_eq]
  refine aw_then ?_
  rw [f38bcca_eq]
  refine aw_reg ?_
  refine aops_go 1 60 (by kernel_rfl) ?_
  refine aops_ask 41 (.string (otherV op)) 41 #[.int .i64 op] (by kernel_rfl) (by kernel_rfl) (by kernel_rfl) (by kernel_rfl) rfl ?_
  refine aops_go 1 60 (by kernel_rfl) ?_
  refine aops_end (by kernel_rfl) (then_normal ?_)
  refine aw_ret (bodyQ_ret ⟨.string (otherV op), (by kernel_rfl), ?_⟩)
  first
  | (simp only [nameV, otherV, inT_lo h, cond_false]; done)
  | (simp only [nameV, otherV, inT_lo h, cond_false]; congr 1; simp; omega)
theorem f38_hi {op : Int} (h : 70 ≤ op) : ACall Tryd.prog T1 38 #[.int .i64 op] ⟨.lf, 0⟩ fun r _ => r = .string (nameV op) := by
  refine acall_of' 42 (initTm 0 #[.int .i64 op]) rfl f38_fn f38_body rfl rfl ?_
  rw [f38b_eq]
  refine aw_then ?_
  rw [f38ba_eq]
  refine aw_reg ?_
  refine aops_go 1 60 (by kernel_rfl) ?_
  refine aops_end (by kernel_rfl) (then_normal ?_)
  rw [f38bc_eq]
  refine aw_then ?_
  rw [f38bca_eq]
  refine aw_then ?_
  rw [f38bcaa_eq]
  refine aw_reg ?_
  refine aops_go 1 60 (by kernel_rfl) ?_
  refine aops_end (by kernel_rfl) (then_normal ?_)
  rw [f38bcac_eq]
  refine aw_block ?_
  rw [f38bcaca_eq]
  refine aw_then ?_
  rw [f38bcacaa_eq]
  refine aw_reg ?_
  refine aops_go 2 60 (by kernel_rfl) ?_
  refine aops_end (by kernel_rfl) (then_normal ?_)
  rw [f38bcacac_eq]
  refine aw_cond (t := false) (see_bool (by kernel_rfl) ((by simp; omega) : (((op : Int) == 0)) = false)) ?_
  rw [f38bcacacc_eq]
  refine aw_then ?_
  rw [f38bcacacca_eq]
  refine aw_reg ?_
  refine aops_go 2 60 (by kernel_rfl) ?_
  refine aops_end (by kernel_rfl) (then_normal ?_)
  rw [f38bcacaccc_eq]
  refine aw_cond (t := false) (see_bool (by kernel_rfl) ((by simp; omega) : (((op : Int) == 1)) = false)) ?_
  rw [f38bcacacccc_eq]
  refine aw_then ?_
  rw [f38bcacacccca_eq]
  refine aw_reg ?_
  refine aops_go 2 60 (by kernel_rfl) ?_
  refine aops_end (by kernel_rfl) (then_normal ?_)
  rw [f38bcacaccccc_eq]
  refine aw_cond (t := false) (see_bool (by kernel_rfl) ((by simp; omega) : (((op : Int) == 2)) = false)) ?_
  rw [f38bcacacccccc_eq]
  refine aw_then ?_
  rw [f38bcacacccccca_eq]
  refine aw_reg ?_
  refine aops_go 2 60 (by kernel_rfl) ?_
  refine aops_end (by kernel_rfl) (then_normal ?_)
  rw [f38bcacaccccccc_eq]
  refine aw_cond (t := false) (see_bool (by kernel_rfl) ((by simp; omega) : (((op : Int) == 3)) = false)) ?_
  rw [f38bcacacccccccc_eq]
  refine aw_then ?_
  rw [f38bcacacccccccca_eq]
  refine aw_reg ?_
  refine aops_go 2 60 (by kernel_rfl) ?_
  refine aops_end (by kernel_rfl) (then_normal ?_)
  rw [f38bcacaccccccccc_eq]
  refine aw_cond (t := false) (see_bool (by kernel_rfl) ((by simp; omega) : (((op : Int) == 4)) = false)) ?_
  rw [f38bcacacccccccccc_eq]
  refine aw_then ?_
  rw [f38bcacacccccccccca_eq]
  refine aw_reg ?_
  refine aops_go 2 60 (by kernel_rfl) ?_
  refine aops_end (by kernel_rfl) (then_normal ?_)
  rw [f38bcacaccccccccccc_eq]
  refine aw_cond (t := false) (see_bool (by kernel_rfl) ((by simp; omega) : (((op : Int) == 5)) = false)) ?_
  rw [f38bcacacccccccccccc_eq]
  refine aw_then ?_
  rw [f38bcacacccccccccccca_eq]
  refine aw_reg ?_
  refine aops_go 2 60 (by kernel_rfl) ?_
  refine aops_end (by kernel_rfl) (then_normal ?_)
  rw [f38bcacaccccccccccccc_eq]
  refine aw_cond (t := false) (see_bool (by kernel_rfl) ((by simp; omega) : (((op : Int) == 6)) = false)) ?_
  rw [f38bcacacccccccccccccc_eq]
  refine aw_then ?_
  rw [f38bcacacccccccccccccca_eq]
  refine aw_reg ?_
  refine aops_go 2 60 (by kernel_rfl) ?_
  refine aops_end (by kernel_rfl) (then_normal ?_)
  rw [f38bcacaccccccccccccccc_eq]
  refine aw_cond (t := false) (see_bool (by kernel_rfl) ((by simp; omega) : (((op : Int) == 7)) = false)) ?_
  rw [f38bcacacccccccccccccccc_eq]
  refine aw_then ?_
  rw [f38bcacacccccccccccccccca_eq]
  refine aw_reg ?_
  refine aops_go 2 60 (by kernel_rfl) ?_
  refine aops_end (by kernel_rfl) (then_normal ?_)
  rw [f38bcacaccccccccccccccccc_eq]
  refine aw_cond (t := false) (see_bool (by kernel_rfl) ((by simp; omega) : (((op : Int) == 8)) = false)) ?_
  rw [f38bcacacccccccccccccccccc_eq]
  refine aw_then ?_
  rw [f38bcacacccccccccccccccccca_eq]
  refine aw_reg ?_
  refine aops_go 2 60 (by kernel_rfl) ?_
  refine aops_end (by kernel_rfl) (then_normal ?_)
  rw [f38bcacaccccccccccccccccccc_eq]
  refine aw_cond (t := false) (see_bool (by kernel_rfl) ((by simp; omega) : (((op : Int) == 32)) = false)) ?_
  rw [f38bcacacccccccccccccccccccc_eq]
  refine aw_then ?_
  rw [f38bcacacccccccccccccccccccca_eq]
  refine aw_reg ?_
  refine aops_go 2 60 (by kernel_rfl) ?_
  refine aops_end (by kernel_rfl) (then_normal ?_)
  rw [f38bcacaccccccccccccccccccccc_eq]
  refine aw_cond (t := false) (see_bool (by kernel_rfl) ((by simp; omega) : (((op : Int) == 33)) = false)) ?_
  rw [f38bcacacccccccccccccccccccccc_eq]
  refine aw_then ?_
  rw [f38bcacacccccccccccccccccccccca_eq]
  refine aw_reg ?_
  refine aops_go 2 60 (by kernel_rfl) ?_
  refine aops_end (by kernel_rfl) (then_normal ?_)
  rw [f38bcacaccccccccccccccccccccccc_eq]
  refine aw_cond (t := false) (see_bool (by kernel_rfl) ((by simp; omega) : (((op : Int) == 34)) = false)) ?_
  rw [f38bcacacccccccccccccccccccccccc_eq]
  refine aw_then ?_
  rw [f38bcacacccccccccccccccccccccccca_eq]
  refine aw_reg ?_
  refine aops_go 2 60 (by kernel_rfl) ?_
  refine aops_end (by kernel_rfl) (then_normal ?_)
  rw [f38bcacaccccccccccccccccccccccccc_eq]
  refine aw_cond (t := false) (see_bool (by kernel_rfl) ((by simp; omega) : (((op : Int) == 35)) = false)) ?_
  rw [f38bcacacccccccccccccccccccccccccc_eq]
  refine aw_then ?_
  rw [f38bcacacccccccccccccccccccccccccca_eq]
  refine aw_reg ?_
  refine aops_go 2 60 (by kernel_rfl) ?_
  refine aops_end (by kernel_rfl) (then_normal ?_)
  rw [f38bcacaccccccccccccccccccccccccccc_eq]
  refine aw_cond (t := false) (see_bool (by kernel_rfl) ((by simp; omega) : (((op : Int) == 36)) = false)) ?_
  rw [f38bcacacccccccccccccccccccccccccccc_eq]
  refine aw_then ?_
  rw [f38bcacacccccccccccccccccccccccccccca_eq]
  refine aw_reg ?_
  refine aops_go 2 60 (by kernel_rfl) ?_
  refine aops_end (by kernel_rfl) (then_normal ?_)
  rw [f38bcacaccccccccccccccccccccccccccccc_eq]
  refine aw_cond (t := false) (see_bool (by kernel_rfl) ((by simp; omega) : (((op : Int) == 37)) = false)) ?_
  rw [f38bcacacccccccccccccccccccccccccccccc_eq]
  refine aw_then ?_
  rw [f38bcacacccccccccccccccccccccccccccccca_eq]
  refine aw_reg ?_
  refine aops_go 2 60 (by kernel_rfl) ?_
  refine aops_end (by kernel_rfl) (then_normal ?_)
  rw [f38bcacaccccccccccccccccccccccccccccccc_eq]
  refine aw_cond (t := false) (see_bool (by kernel_rfl) ((by simp; omega) : (((op : Int) == 38)) = false)) ?_
  rw [f38bcacacccccccccccccccccccccccccccccccc_eq]
  refine aw_then ?_
  rw [f38bcacacccccccccccccccccccccccccccccccca_eq]
  refine aw_reg ?_
  refine aops_go 2 60 (by kernel_rfl) ?_
  refine aops_end (by kernel_rfl) (then_normal ?_)
  rw [f38bcacaccccccccccccccccccccccccccccccccc_eq]
  refine aw_cond (t := false) (see_bool (by kernel_rfl) ((by simp; omega) : (((op : Int) == 39)) = false)) ?_
  rw [f38bcacacccccccccccccccccccccccccccccccccc_eq]
  refine aw_then ?_
  rw [f38bcacacccccccccccccccccccccccccccccccccca_eq]
  refine aw_reg ?_
  refine aops_go 2 60 (by kernel_rfl) ?_
  refine aops_end (by kernel_rfl) (then_normal ?_)
  rw [f38bcacaccccccccccccccccccccccccccccccccccc_eq]
  refine aw_cond (t := false) (see_bool (by kernel_rfl) ((by simp; omega) : (((op : Int) == 40)) = false)) ?_
  refine aw_skip (blk_normal (then_normal ?_))
  rw [f38bcc_eq]
  refine aw_then ?_
  rw [f38bcca_eq]
  refine aw_reg ?_
  refine aops_go 1 60 (by kernel_rfl) ?_
  refine aops_ask 41 (.string (otherV op)) 41 #[.int .i64 op] (by kernel_rfl) (by kernel_rfl) (by kernel_rfl) (by kernel_rfl) rfl ?_
  refine aops_go 1 60 (by kernel_rfl) ?_
  refine aops_end (by kernel_rfl) (then_normal ?_)
  refine aw_ret (bodyQ_ret ⟨.string (otherV op), (by kernel_rfl), ?_⟩)
  first
  | (simp only [nameV, otherV, inT_hi h, cond_false]; done)
  | (simp only [nameV, otherV, inT_hi h, cond_false]; congr 1; simp; omega)
theorem f38_any (op : Int) : ACall Tryd.prog T1 38 #[.int .i64 op] ⟨.lf, 0⟩ fun r _ => r = .string (nameV op) := by
  by_cases h : op < 0
  · exact f38_lo h
  · by_cases h2 : 70 ≤ op
    · exact f38_hi (by omega)
    · exact acall_range (N := 70) (k := 300) (g := fun op => .string (nameV op)) (by kernel_rfl) (by omega) (by omega)
def sp38 : List Value → Option Value
  | [.int .i64 op] => some (.string (nameV op))
  | _ => none
noncomputable def T2 : Tab := { T1 with orc := addOrc T1.orc 38 sp38 }
theorem progOk2 [Bs] : ProgOk Tryd.prog T2 := progOk1.know 38 sp38 fun args v h => by
  unfold sp38 at h
  split at h
  · cases h; exact ⟨rfl, rfl, f38_any _⟩
  · cases h
noncomputable def f28b : Code := Tryd.f28.body.getD .skip
noncomputable def f28ba : Code := cl f28b
noncomputable def f28bao : Array Oper := opsOf f28ba
noncomputable def f28bc : Code := cr f28b
noncomputable def f28bca : Code := cl f28bc
noncomputable def f28bcaa : Code := cl f28bca
noncomputable def f28bcaaa : Code := cl f28bcaa
noncomputable def f28bcaaao : Array Oper := opsOf f28bcaaa
noncomputable def f28bcaac : Code := cr f28bcaa
noncomputable def f28bcaaca : Code := cl f28bcaac
noncomputable def f28bcaacaa : Code := cl f28bcaaca
noncomputable def f28bcaacaao : Array Oper := opsOf f28bcaacaa
noncomputable def f28bcaacc : Code := cr f28bcaac
noncomputable def f28bcaacca : Code := cl f28bcaacc
noncomputable def f28bcaaccao : Array Oper := opsOf f28bcaacca
noncomputable def f28bcaaccc : Code := cr f28bcaacc
noncomputable def f28bcaaccca : Code := cl f28bcaaccc
noncomputable def f28bcaacccaa : Code := cl f28bcaaccca
noncomputable def f28bcaacccaao : Array Oper := opsOf f28bcaacccaa
noncomputable def f28bcaacccc : Code := cr f28bcaaccc
noncomputable def f28bcaacccca : Code := cl f28bcaacccc
noncomputable def f28bcaaccccao : Array Oper := opsOf f28bcaacccca
noncomputable def f28bcaaccccc : Code := cr f28bcaacccc
noncomputable def f28bcaaccccca : Code := cl f28bcaaccccc
noncomputable def f28bcaacccccaa : Code := cl f28bcaaccccca
noncomputable def f28bcaacccccaao : Array Oper := opsOf f28bcaacccccaa
noncomputable def f28bcaacccccc : Code := cr f28bcaaccccc
noncomputable def f28bcaacccccca : Code := cl f28bcaacccccc
noncomputable def f28bcaaccccccao : Array Oper := opsOf f28bcaacccccca
noncomputable def f28bcaaccccccc : Code := cr f28bcaacccccc
noncomputable def f28bcaaccccccca : Code := cl f28bcaaccccccc
noncomputable def f28bcaacccccccaa : Code := cl f28bcaaccccccca
noncomputable def f28bcaacccccccaao : Array Oper := opsOf f28bcaacccccccaa
noncomputable def f28bcaacccccccc : Code := cr f28bcaaccccccc
noncomputable def f28bcaacccccccca : Code := cl f28bcaacccccccc
noncomputable def f28bcaaccccccccao : Array Oper := opsOf f28bcaacccccccca
noncomputable def f28bcaaccccccccc : Code := cr f28bcaacccccccc
noncomputable def f28bcaaccccccccca : Code := cl f28bcaaccccccccc
noncomputable def f28bcaacccccccccaa : Code := cl f28bcaaccccccccca
noncomputable def f28bcaacccccccccaao : Array Oper := opsOf f28bcaacccccccccaa
noncomputable def f28bcc : Code := cr f28bc
noncomputable def f28bcca : Code := cl f28bcc
noncomputable def f28bccao : Array Oper := opsOf f28bcca
theorem f28ba_eq : f28ba = .region 0 f28bao false := by kernel_rfl
theorem f28bcaaa_eq : f28bcaaa = .region 1 f28bcaaao false := by kernel_rfl
theorem f28bcaacaa_eq : f28bcaacaa = .region 2 f28bcaacaao false := by kernel_rfl
theorem f28bcaaca_eq : f28bcaaca = .seq f28bcaacaa .ret := by kernel_rfl
theorem f28bcaacca_eq : f28bcaacca = .region 3 f28bcaaccao false := by kernel_rfl
theorem f28bcaacccaa_eq : f28bcaacccaa = .region 4 f28bcaacccaao false := by kernel_rfl
theorem f28bcaaccca_eq : f28bcaaccca = .seq f28bcaacccaa .ret := by kernel_rfl
theorem f28bcaacccca_eq : f28bcaacccca = .region 5 f28bcaaccccao false := by kernel_rfl
theorem f28bcaacccccaa_eq : f28bcaacccccaa = .region 6 f28bcaacccccaao false := by kernel_rfl
theorem f28bcaaccccca_eq : f28bcaaccccca = .seq f28bcaacccccaa .ret := by kernel_rfl
theorem f28bcaacccccca_eq : f28bcaacccccca = .region 7 f28bcaaccccccao false := by kernel_rfl
theorem f28bcaacccccccaa_eq : f28bcaacccccccaa = .region 8 f28bcaacccccccaao false := by kernel_rfl
theorem f28bcaaccccccca_eq : f28bcaaccccccca = .seq f28bcaacccccccaa .ret := by kernel_rfl
theorem f28bcaacccccccca_eq : f28bcaacccccccca = .region 9 f28bcaaccccccccao false := by kernel_rfl
theorem f28bcaacccccccccaa_eq : f28bcaacccccccccaa = .region 10 f28bcaacccccccccaao false := by kernel_rfl
theorem f28bcaaccccccccca_eq : f28bcaaccccccccca = .seq f28bcaacccccccccaa .ret := by kernel_rfl
theorem f28bcaaccccccccc_eq : f28bcaaccccccccc = .cond (cop f28bcaaccccccccc) f28bcaaccccccccca .skip := by kernel_rfl
theorem f28bcaacccccccc_eq : f28bcaacccccccc = .seq f28bcaacccccccca f28bcaaccccccccc := by kernel_rfl
theorem f28bcaaccccccc_eq : f28bcaaccccccc = .cond (cop f28bcaaccccccc) f28bcaaccccccca f28bcaacccccccc := by kernel_rfl
theorem f28bcaacccccc_eq : f28bcaacccccc = .seq f28bcaacccccca f28bcaaccccccc := by kernel_rfl
theorem f28bcaaccccc_eq : f28bcaaccccc = .cond (cop f28bcaaccccc) f28bcaaccccca f28bcaacccccc := by kernel_rfl
theorem f28bcaacccc_eq : f28bcaacccc = .seq f28bcaacccca f28bcaaccccc := by kernel_rfl
theorem f28bcaaccc_eq : f28bcaaccc = .cond (cop f28bcaaccc) f28bcaaccca f28bcaacccc := by kernel_rfl
theorem f28bcaacc_eq : f28bcaacc = .seq f28bcaacca f28bcaaccc := by kernel_rfl
theorem f28bcaac_eq : f28bcaac = .cond (cop f28bcaac) f28bcaaca f28bcaacc := by kernel_rfl
theorem f28bcaa_eq : f28bcaa = .seq f28bcaaa f28bcaac := by kernel_rfl
theorem f28bca_eq : f28bca = .block 0 f28bcaa := by kernel_rfl
theorem f28bcca_eq : f28bcca = .region 11 f28bccao false := by kernel_rfl
theorem f28bcc_eq : f28bcc = .seq f28bcca .ret := by kernel_rfl
theorem f28bc_eq : f28bc = .seq f28bca f28bcc := by kernel_rfl
theorem f28b_eq : f28b = .seq f28ba f28bc := by kernel_rfl
theorem f28_body : Tryd.f28.body = some f28b := by kernel_rfl
theorem f28_fn : T2.fn 28 = some Tryd.f28 := by kernel_rfl
theorem f28_lo {op : Int} (h : op < 0) : ACall Tryd.prog T2 28 #[.int .i64 op] ⟨.lf, 0⟩ fun r _ => r = .string (nameV op) := by
  refine acall_of' 62 (initTm 0 #[.int .i64 op]) rfl f28_fn f28_body rfl rfl ?_
  rw [f28b_eq]
  refine aw_then ?_
  rw [f28ba_eq]
  refine aw_reg ?_
  refine aops_go 1 60 (by kernel_rfl) ?_
  refine aops_end (by kernel_rfl) (then_normal ?_)
  rw [f28bc_eq]
  refine aw_then ?_
  rw [f28bca_eq]
  refine aw_block ?_
  rw [f28bcaa_eq]
  refine aw_then ?_
  rw [f28bcaaa_eq]
  refine aw_reg ?_
  refine aops_go 3 60 (by kernel_rfl) ?_
  refine aops_see 6 (.bool false) (see_bool (by kernel_rfl) ((by simp; omega) : ((decide ((op : Int) ≥ 0))) = false)) ?_
  refine aops_go 4 60 (by kernel_rfl) ?_
  refine aops_end (by kernel_rfl) (then_normal ?_)
  rw [f28bcaac_eq]
  refine aw_cond (t := false) (by kernel_rfl) ?_
  rw [f28bcaacc_eq]
  refine aw_then ?_
  rw [f28bcaacca_eq]
  refine aw_reg ?_
  refine aops_go 3 60 (by kernel_rfl) ?_
  refine aops_see 17 (.bool false) (see_bool (by kernel_rfl) ((by simp; omega) : ((decide ((op : Int) ≥ 16))) = false)) ?_
  refine aops_go 4 60 (by kernel_rfl) ?_
  refine aops_end (by kernel_rfl) (then_normal ?_)
  rw [f28bcaaccc_eq]
  refine aw_cond (t := false) (by kernel_rfl) ?_
  rw [f28bcaacccc_eq]
  refine aw_then ?_
  rw [f28bcaacccca_eq]
  refine aw_reg ?_
  refine aops_go 3 60 (by kernel_rfl) ?_
  refine aops_see 29 (.bool false) (see_bool (by kernel_rfl) ((by simp; omega) : ((decide ((op : Int) ≥ 32))) = false)) ?_
  refine aops_go 4 60 (by kernel_rfl) ?_
  refine aops_end (by kernel_rfl) (then_normal ?_)
  rw [f28bcaaccccc_eq]
  refine aw_cond (t := false) (by kernel_rfl) ?_
  rw [f28bcaacccccc_eq]
  refine aw_then ?_
  rw [f28bcaacccccca_eq]
  refine aw_reg ?_
  refine aops_go 3 60 (by kernel_rfl) ?_
  refine aops_see 41 (.bool false) (see_bool (by kernel_rfl) ((by simp; omega) : ((decide ((op : Int) ≥ 48))) = false)) ?_
  refine aops_go 4 60 (by kernel_rfl) ?_
  refine aops_end (by kernel_rfl) (then_normal ?_)
  rw [f28bcaaccccccc_eq]
  refine aw_cond (t := false) (by kernel_rfl) ?_
  rw [f28bcaacccccccc_eq]
  refine aw_then ?_
  rw [f28bcaacccccccca_eq]
  refine aw_reg ?_
  refine aops_go 3 60 (by kernel_rfl) ?_
  refine aops_see 53 (.bool false) (see_bool (by kernel_rfl) ((by simp; omega) : ((decide ((op : Int) ≥ 64))) = false)) ?_
  refine aops_go 4 60 (by kernel_rfl) ?_
  refine aops_end (by kernel_rfl) (then_normal ?_)
  rw [f28bcaaccccccccc_eq]
  refine aw_cond (t := false) (by kernel_rfl) ?_
  refine aw_skip (blk_normal (then_normal ?_))
  rw [f28bcc_eq]
  refine aw_then ?_
  rw [f28bcca_eq]
  refine aw_reg ?_
  refine aops_go 1 60 (by kernel_rfl) ?_
  refine aops_end (by kernel_rfl) (then_normal ?_)
  refine aw_ret (bodyQ_ret ⟨.string ⟨⟨[]⟩⟩, (by kernel_rfl), ?_⟩)
  first
  | (simp only [nameV, inT_lo h, cond_false]; done)
  | (simp only [nameV, inT_lo h, cond_false]; congr 1; simp; omega)
theorem f28_hi {op : Int} (h : 70 ≤ op) : ACall Tryd.prog T2 28 #[.int .i64 op] ⟨.lf, 0⟩ fun r _ => r = .string (nameV op) := by
  refine acall_of' 62 (initTm 0 #[.int .i64 op]) rfl f28_fn f28_body rfl rfl ?_
  rw [f28b_eq]
  refine aw_then ?_
  rw [f28ba_eq]
  refine aw_reg ?_
  refine aops_go 1 60 (by kernel_rfl) ?_
  refine aops_end (by kernel_rfl) (then_normal ?_)
  rw [f28bc_eq]
  refine aw_then ?_
  rw [f28bca_eq]
  refine aw_block ?_
  rw [f28bcaa_eq]
  refine aw_then ?_
  rw [f28bcaaa_eq]
  refine aw_reg ?_
  refine aops_go 3 60 (by kernel_rfl) ?_
  refine aops_see 6 (.bool true) (see_bool (by kernel_rfl) ((by simp; omega) : ((decide ((op : Int) ≥ 0))) = true)) ?_
  refine aops_go 4 60 (by kernel_rfl) ?_
  refine aops_end (by kernel_rfl) (then_normal ?_)
  rw [f28bcaac_eq]
  refine aw_cond (t := false) (see_bool (by kernel_rfl) ((by simp; omega) : ((decide ((op : Int) ≤ 8))) = false)) ?_
  rw [f28bcaacc_eq]
  refine aw_then ?_
  rw [f28bcaacca_eq]
  refine aw_reg ?_
  refine aops_go 3 60 (by kernel_rfl) ?_
  refine aops_see 17 (.bool true) (see_bool (by kernel_rfl) ((by simp; omega) : ((decide ((op : Int) ≥ 16))) = true)) ?_
  refine aops_go 4 60 (by kernel_rfl) ?_
  refine aops_end (by kernel_rfl) (then_normal ?_)
  rw [f28bcaaccc_eq]
  refine aw_cond (t := false) (see_bool (by kernel_rfl) ((by simp; omega) : ((decide ((op : Int) ≤ 25))) = false)) ?_
  rw [f28bcaacccc_eq]
  refine aw_then ?_
  rw [f28bcaacccca_eq]
  refine aw_reg ?_
  refine aops_go 3 60 (by kernel_rfl) ?_
  refine aops_see 29 (.bool true) (see_bool (by kernel_rfl) ((by simp; omega) : ((decide ((op : Int) ≥ 32))) = true)) ?_
  refine aops_go 4 60 (by kernel_rfl) ?_
  refine aops_end (by kernel_rfl) (then_normal ?_)
  rw [f28bcaaccccc_eq]
  refine aw_cond (t := false) (see_bool (by kernel_rfl) ((by simp; omega) : ((decide ((op : Int) ≤ 40))) = false)) ?_
  rw [f28bcaacccccc_eq]
  refine aw_then ?_
  rw [f28bcaacccccca_eq]
  refine aw_reg ?_
  refine aops_go 3 60 (by kernel_rfl) ?_
  refine aops_see 41 (.bool true) (see_bool (by kernel_rfl) ((by simp; omega) : ((decide ((op : Int) ≥ 48))) = true)) ?_
  refine aops_go 4 60 (by kernel_rfl) ?_
  refine aops_end (by kernel_rfl) (then_normal ?_)
  rw [f28bcaaccccccc_eq]
  refine aw_cond (t := false) (see_bool (by kernel_rfl) ((by simp; omega) : ((decide ((op : Int) ≤ 53))) = false)) ?_
  rw [f28bcaacccccccc_eq]
  refine aw_then ?_
  rw [f28bcaacccccccca_eq]
  refine aw_reg ?_
  refine aops_go 3 60 (by kernel_rfl) ?_
  refine aops_see 53 (.bool true) (see_bool (by kernel_rfl) ((by simp; omega) : ((decide ((op : Int) ≥ 64))) = true)) ?_
  refine aops_go 4 60 (by kernel_rfl) ?_
  refine aops_end (by kernel_rfl) (then_normal ?_)
  rw [f28bcaaccccccccc_eq]
  refine aw_cond (t := false) (see_bool (by kernel_rfl) ((by simp; omega) : ((decide ((op : Int) ≤ 69))) = false)) ?_
  refine aw_skip (blk_normal (then_normal ?_))
  rw [f28bcc_eq]
  refine aw_then ?_
  rw [f28bcca_eq]
  refine aw_reg ?_
  refine aops_go 1 60 (by kernel_rfl) ?_
  refine aops_end (by kernel_rfl) (then_normal ?_)
  refine aw_ret (bodyQ_ret ⟨.string ⟨⟨[]⟩⟩, (by kernel_rfl), ?_⟩)
  first
  | (simp only [nameV, inT_hi h, cond_false]; done)
  | (simp only [nameV, inT_hi h, cond_false]; congr 1; simp; omega)
theorem f28_any (op : Int) : ACall Tryd.prog T2 28 #[.int .i64 op] ⟨.lf, 0⟩ fun r _ => r = .string (nameV op) := by
  by_cases h : op < 0
  · exact f28_lo h
  · by_cases h2 : 70 ≤ op
    · exact f28_hi (by omega)
    · exact acall_range (N := 70) (k := 300) (g := fun op => .string (nameV op)) (by kernel_rfl) (by omega) (by omega)
def sp28 : List Value → Option Value
  | [.int .i64 op] => some (.string (nameV op))
  | _ => none
noncomputable def T3 : Tab := { T2 with orc := addOrc T2.orc 28 sp28 }
theorem progOk3 [Bs] : ProgOk Tryd.prog T3 := progOk2.know 28 sp28 fun args v h => by
  unfold sp28 at h
  split at h
  · cases h; exact ⟨rfl, rfl, f28_any _⟩
  · cases h
noncomputable def f15b : Code := Tryd.f15.body.getD .skip
noncomputable def f15ba : Code := cl f15b
noncomputable def f15bao : Array Oper := opsOf f15ba
noncomputable def f15bc : Code := cr f15b
noncomputable def f15bca : Code := cl f15bc
noncomputable def f15bcaa : Code := cl f15bca
noncomputable def f15bcaao : Array Oper := opsOf f15bcaa
noncomputable def f15bcac : Code := cr f15bca
noncomputable def f15bcaca : Code := cl f15bcac
noncomputable def f15bcacaa : Code := cl f15bcaca
noncomputable def f15bcacaaa : Code := cl f15bcacaa
noncomputable def f15bcacaaao : Array Oper := opsOf f15bcacaaa
noncomputable def f15bcacaac : Code := cr f15bcacaa
noncomputable def f15bcacaacc : Code := cr f15bcacaac
noncomputable def f15bcacaacca : Code := cl f15bcacaacc
noncomputable def f15bcacaaccao : Array Oper := opsOf f15bcacaacca
noncomputable def f15bcacaaccc : Code := cr f15bcacaacc
noncomputable def f15bcacaacccc : Code := cr f15bcacaaccc
noncomputable def f15bcacaacccca : Code := cl f15bcacaacccc
noncomputable def f15bcacaaccccao : Array Oper := opsOf f15bcacaacccca
noncomputable def f15bcacaaccccc : Code := cr f15bcacaacccc
noncomputable def f15bcacaacccccc : Code := cr f15bcacaaccccc
noncomputable def f15bcacaacccccca : Code := cl f15bcacaacccccc
noncomputable def f15bcacaaccccccao : Array Oper := opsOf f15bcacaacccccca
noncomputable def f15bcacaaccccccc : Code := cr f15bcacaacccccc
noncomputable def f15bcacaacccccccc : Code := cr f15bcacaaccccccc
noncomputable def f15bcacaacccccccca : Code := cl f15bcacaacccccccc
noncomputable def f15bcacaaccccccccao : Array Oper := opsOf f15bcacaacccccccca
noncomputable def f15bcacaaccccccccc : Code := cr f15bcacaacccccccc
noncomputable def f15bcacaacccccccccc : Code := cr f15bcacaaccccccccc
noncomputable def f15bcacaacccccccccca : Code := cl f15bcacaacccccccccc
noncomputable def f15bcacaaccccccccccao : Array Oper := opsOf f15bcacaacccccccccca
noncomputable def f15bcacaaccccccccccc : Code := cr f15bcacaacccccccccc
noncomputable def f15bcacaacccccccccccc : Code := cr f15bcacaaccccccccccc
noncomputable def f15bcacaacccccccccccca : Code := cl f15bcacaacccccccccccc
noncomputable def f15bcacaaccccccccccccao : Array Oper := opsOf f15bcacaacccccccccccca
noncomputable def f15bcacaaccccccccccccc : Code := cr f15bcacaacccccccccccc
noncomputable def f15bcacaacccccccccccccc : Code := cr f15bcacaaccccccccccccc
noncomputable def f15bcacaacccccccccccccca : Code := cl f15bcacaacccccccccccccc
noncomputable def f15bcacaaccccccccccccccao : Array Oper := opsOf f15bcacaacccccccccccccca
noncomputable def f15bcacaaccccccccccccccc : Code := cr f15bcacaacccccccccccccc
noncomputable def f15bcacaacccccccccccccccc : Code := cr f15bcacaaccccccccccccccc
noncomputable def f15bcacaacccccccccccccccca : Code := cl f15bcacaacccccccccccccccc
noncomputable def f15bcacaaccccccccccccccccao : Array Oper := opsOf f15bcacaacccccccccccccccca
noncomputable def f15bcacaaccccccccccccccccc : Code := cr f15bcacaacccccccccccccccc
noncomputable def f15bcacaacccccccccccccccccc : Code := cr f15bcacaaccccccccccccccccc
noncomputable def f15bcacaacccccccccccccccccco : Array Oper := opsOf f15bcacaacccccccccccccccccc
noncomputable def f15bcacac : Code := cr f15bcaca
noncomputable def f15bcacaca : Code := cl f15bcacac
noncomputable def f15bcacacaa : Code := cl f15bcacaca
noncomputable def f15bcacacaao : Array Oper := opsOf f15bcacacaa
noncomputable def f15bcacacc : Code := cr f15bcacac
noncomputable def f15bcacacca : Code := cl f15bcacacc
noncomputable def f15bcacaccao : Array Oper := opsOf f15bcacacca
noncomputable def f15bcacaccc : Code := cr f15bcacacc
noncomputable def f15bcacaccca : Code := cl f15bcacaccc
noncomputable def f15bcacacccaa : Code := cl f15bcacaccca
noncomputable def f15bcacacccaao : Array Oper := opsOf f15bcacacccaa
noncomputable def f15bcc : Code := cr f15bc
noncomputable def f15bcca : Code := cl f15bcc
noncomputable def f15bccaa : Code := cl f15bcca
noncomputable def f15bccaao : Array Oper := opsOf f15bccaa
noncomputable def f15bccac : Code := cr f15bcca
noncomputable def f15bccaca : Code := cl f15bccac
noncomputable def f15bccacaa : Code := cl f15bccaca
noncomputable def f15bccacaao : Array Oper := opsOf f15bccacaa
noncomputable def f15bccc : Code := cr f15bcc
noncomputable def f15bccca : Code := cl f15bccc
noncomputable def f15bcccao : Array Oper := opsOf f15bccca
theorem f15ba_eq : f15ba = .region 0 f15bao false := by kernel_rfl
theorem f15bcaa_eq : f15bcaa = .region 1 f15bcaao false := by kernel_rfl
theorem f15bcacaaa_eq : f15bcacaaa = .region 2 f15bcacaaao false := by kernel_rfl
theorem f15bcacaacca_eq : f15bcacaacca = .region 3 f15bcacaaccao false := by kernel_rfl
theorem f15bcacaacccca_eq : f15bcacaacccca = .region 4 f15bcacaaccccao false := by kernel_rfl
theorem f15bcacaacccccca_eq : f15bcacaacccccca = .region 5 f15bcacaaccccccao false := by kernel_rfl
theorem f15bcacaacccccccca_eq : f15bcacaacccccccca = .region 6 f15bcacaaccccccccao false := by kernel_rfl
theorem f15bcacaacccccccccca_eq : f15bcacaacccccccccca = .region 7 f15bcacaaccccccccccao false := by kernel_rfl
theorem f15bcacaacccccccccccca_eq : f15bcacaacccccccccccca = .region 8 f15bcacaaccccccccccccao false := by kernel_rfl
theorem f15bcacaacccccccccccccca_eq : f15bcacaacccccccccccccca = .region 9 f15bcacaaccccccccccccccao false := by kernel_rfl
theorem f15bcacaacccccccccccccccca_eq : f15bcacaacccccccccccccccca = .region 10 f15bcacaaccccccccccccccccao false := by kernel_rfl
theorem f15bcacaacccccccccccccccccc_eq : f15bcacaacccccccccccccccccc = .region 11 f15bcacaacccccccccccccccccco false := by kernel_rfl
theorem f15bcacaaccccccccccccccccc_eq : f15bcacaaccccccccccccccccc = .cond (cop f15bcacaaccccccccccccccccc) .skip f15bcacaacccccccccccccccccc := by kernel_rfl
theorem f15bcacaacccccccccccccccc_eq : f15bcacaacccccccccccccccc = .seq f15bcacaacccccccccccccccca f15bcacaaccccccccccccccccc := by kernel_rfl
theorem f15bcacaaccccccccccccccc_eq : f15bcacaaccccccccccccccc = .cond (cop f15bcacaaccccccccccccccc) .skip f15bcacaacccccccccccccccc := by kernel_rfl
theorem f15bcacaacccccccccccccc_eq : f15bcacaacccccccccccccc = .seq f15bcacaacccccccccccccca f15bcacaaccccccccccccccc := by kernel_rfl
theorem f15bcacaaccccccccccccc_eq : f15bcacaaccccccccccccc = .cond (cop f15bcacaaccccccccccccc) .skip f15bcacaacccccccccccccc := by kernel_rfl
theorem f15bcacaacccccccccccc_eq : f15bcacaacccccccccccc = .seq f15bcacaacccccccccccca f15bcacaaccccccccccccc := by kernel_rfl
theorem f15bcacaaccccccccccc_eq : f15bcacaaccccccccccc = .cond (cop f15bcacaaccccccccccc) .skip f15bcacaacccccccccccc := by kernel_rfl
theorem f15bcacaacccccccccc_eq : f15bcacaacccccccccc = .seq f15bcacaacccccccccca f15bcacaaccccccccccc := by kernel_rfl
theorem f15bcacaaccccccccc_eq : f15bcacaaccccccccc = .cond (cop f15bcacaaccccccccc) .skip f15bcacaacccccccccc := by kernel_rfl
theorem f15bcacaacccccccc_eq : f15bcacaacccccccc = .seq f15bcacaacccccccca f15bcacaaccccccccc := by kernel_rfl
theorem f15bcacaaccccccc_eq : f15bcacaaccccccc = .cond (cop f15bcacaaccccccc) .skip f15bcacaacccccccc := by kernel_rfl
theorem f15bcacaacccccc_eq : f15bcacaacccccc = .seq f15bcacaacccccca f15bcacaaccccccc := by kernel_rfl
theorem f15bcacaaccccc_eq : f15bcacaaccccc = .cond (cop f15bcacaaccccc) .skip f15bcacaacccccc := by kernel_rfl
theorem f15bcacaacccc_eq : f15bcacaacccc = .seq f15bcacaacccca f15bcacaaccccc := by kernel_rfl
theorem f15bcacaaccc_eq : f15bcacaaccc = .cond (cop f15bcacaaccc) .skip f15bcacaacccc := by kernel_rfl
theorem f15bcacaacc_eq : f15bcacaacc = .seq f15bcacaacca f15bcacaaccc := by kernel_rfl
theorem f15bcacaac_eq : f15bcacaac = .cond (cop f15bcacaac) .skip f15bcacaacc := by kernel_rfl
theorem f15bcacaa_eq : f15bcacaa = .seq f15bcacaaa f15bcacaac := by kernel_rfl
theorem f15bcacacaa_eq : f15bcacacaa = .region 12 f15bcacacaao false := by kernel_rfl
theorem f15bcacaca_eq : f15bcacaca = .seq f15bcacacaa .ret := by kernel_rfl
theorem f15bcacacca_eq : f15bcacacca = .region 13 f15bcacaccao false := by kernel_rfl
theorem f15bcacacccaa_eq : f15bcacacccaa = .region 14 f15bcacacccaao false := by kernel_rfl
theorem f15bcacaccca_eq : f15bcacaccca = .seq f15bcacacccaa .ret := by kernel_rfl
theorem f15bcacaccc_eq : f15bcacaccc = .cond (cop f15bcacaccc) f15bcacaccca .skip := by kernel_rfl
theorem f15bcacacc_eq : f15bcacacc = .seq f15bcacacca f15bcacaccc := by kernel_rfl
theorem f15bcacac_eq : f15bcacac = .cond (cop f15bcacac) f15bcacaca f15bcacacc := by kernel_rfl
theorem f15bcaca_eq : f15bcaca = .seq f15bcacaa f15bcacac := by kernel_rfl
theorem f15bcac_eq : f15bcac = .block 0 f15bcaca := by kernel_rfl
theorem f15bca_eq : f15bca = .seq f15bcaa f15bcac := by kernel_rfl
theorem f15bccaa_eq : f15bccaa = .region 15 f15bccaao false := by kernel_rfl
theorem f15bccacaa_eq : f15bccacaa = .region 16 f15bccacaao false := by kernel_rfl
theorem f15bccaca_eq : f15bccaca = .seq f15bccacaa .ret := by kernel_rfl
theorem f15bccac_eq : f15bccac = .cond (cop f15bccac) f15bccaca .skip := by kernel_rfl
theorem f15bcca_eq : f15bcca = .seq f15bccaa f15bccac := by kernel_rfl
theorem f15bccca_eq : f15bccca = .region 17 f15bcccao false := by kernel_rfl
theorem f15bccc_eq : f15bccc = .seq f15bccca .ret := by kernel_rfl
theorem f15bcc_eq : f15bcc = .seq f15bcca f15bccc := by kernel_rfl
theorem f15bc_eq : f15bc = .seq f15bca f15bcc := by kernel_rfl
theorem f15b_eq : f15b = .seq f15ba f15bc := by kernel_rfl
theorem f15_body : Tryd.f15.body = some f15b := by kernel_rfl
theorem f15_fn : T3.fn 15 = some Tryd.f15 := by kernel_rfl
theorem f15_lo {op : Int} (h : op < 0) : ACall Tryd.prog T3 15 #[.int .i64 op] ⟨.lf, 0⟩ fun r _ => r = .int .i64 (sizeV op) := by
  refine acall_of' 20 (initTm 0 #[.int .i64 op]) rfl f15_fn f15_body rfl rfl ?_
  rw [f15b_eq]
  refine aw_then ?_
  rw [f15ba_eq]
  refine aw_reg ?_
  refine aops_go 1 60 (by kernel_rfl) ?_
  refine aops_end (by kernel_rfl) (then_normal ?_)
  rw [f15bc_eq]
  refine aw_then ?_
  rw [f15bca_eq]
  refine aw_then ?_
  rw [f15bcaa_eq]
  refine aw_reg ?_
  refine aops_go 1 60 (by kernel_rfl) ?_
  refine aops_end (by kernel_rfl) (then_normal ?_)
  rw [f15bcac_eq]
  refine aw_block ?_
  rw [f15bcaca_eq]
  refine aw_then ?_
  rw [f15bcacaa_eq]
  refine aw_then ?_
  rw [f15bcacaaa_eq]
  refine aw_reg ?_
  refine aops_go 2 60 (by kernel_rfl) ?_
  refine aops_end (by kernel_rfl) (then_normal ?_)
  rw [f15bcacaac_eq]
  refine aw_cond (t := false) (see_bool (by kernel_rfl) ((by simp; omega) : (((op : Int) == 1)) = false)) ?_
  rw [f15bcacaacc_eq]
  refine aw_then ?_
  rw [f15bcacaacca_eq]
  refine aw_reg ?_
  refine aops_go 2 60 (by kernel_rfl) ?_
  refine aops_end (by kernel_rfl) (then_normal ?_)
  rw [f15bcacaaccc_eq]
  refine aw_cond (t := false) (see_bool (by kernel_rfl) ((by simp; omega) : (((op : Int) == 32)) = false)) ?_
  rw [f15bcacaacccc_eq]
  refine aw_then ?_
  rw [f15bcacaacccca_eq]
  refine aw_reg ?_
  refine aops_go 2 60 (by kernel_rfl) ?_
  refine aops_end (by kernel_rfl) (then_normal ?_)
  rw [f15bcacaaccccc_eq]
  refine aw_cond (t := false) (see_bool (by kernel_rfl) ((by simp; omega) : (((op : Int) == 33)) = false)) ?_
  rw [f15bcacaacccccc_eq]
  refine aw_then ?_
  rw [f15bcacaacccccca_eq]
  refine aw_reg ?_
  refine aops_go 2 60 (by kernel_rfl) ?_
  refine aops_end (by kernel_rfl) (then_normal ?_)
  rw [f15bcacaaccccccc_eq]
  refine aw_cond (t := false) (see_bool (by kernel_rfl) ((by simp; omega) : (((op : Int) == 34)) = false)) ?_
  rw [f15bcacaacccccccc_eq]
  refine aw_then ?_
  rw [f15bcacaacccccccca_eq]
  refine aw_reg ?_
  refine aops_go 2 60 (by kernel_rfl) ?_
  refine aops_end (by kernel_rfl) (then_normal ?_)
  rw [f15bcacaaccccccccc_eq]
  refine aw_cond (t := false) (see_bool (by kernel_rfl) ((by simp; omega) : (((op : Int) == 35)) = false)) ?_
  rw [f15bcacaacccccccccc_eq]
  refine aw_then ?_
  rw [f15bcacaacccccccccca_eq]
  refine aw_reg ?_
  refine aops_go 2 60 (by kernel_rfl) ?_
  refine aops_end (by kernel_rfl) (then_normal ?_)
  rw [f15bcacaaccccccccccc_eq]
  refine aw_cond (t := false) (see_bool (by kernel_rfl) ((by simp; omega) : (((op : Int) == 36)) = false)) ?_
  rw [f15bcacaacccccccccccc_eq]
  refine aw_then ?_
  rw [f15bcacaacccccccccccca_eq]
  refine aw_reg ?_
  refine aops_go 2 60 (by kernel_rfl) ?_
  refine aops_end (by kernel_rfl) (then_normal ?_)
  rw [f15bcacaaccccccccccccc_eq]
  refine aw_cond (t := false) (see_bool (by kernel_rfl) ((by simp; omega) : (((op : Int) == 37)) = false)) ?_
  rw [f15bcacaacccccccccccccc_eq]
  refine aw_then ?_
  rw [f15bcacaacccccccccccccca_eq]
  refine aw_reg ?_
  refine aops_go 2 60 (by kernel_rfl) ?_
  refine aops_end (by kernel_rfl) (then_normal ?_)
  rw [f15bcacaaccccccccccccccc_eq]
  refine aw_cond (t := false) (see_bool (by kernel_rfl) ((by simp; omega) : (((op : Int) == 38)) = false)) ?_
  rw [f15bcacaacccccccccccccccc_eq]
  refine aw_then ?_
  rw [f15bcacaacccccccccccccccca_eq]
  refine aw_reg ?_
  refine aops_go 2 60 (by kernel_rfl) ?_
  refine aops_end (by kernel_rfl) (then_normal ?_)
  rw [f15bcacaaccccccccccccccccc_eq]
  refine aw_cond (t := false) (see_bool (by kernel_rfl) ((by simp; omega) : (((op : Int) == 66)) = false)) ?_
  rw [f15bcacaacccccccccccccccccc_eq]
  refine aw_reg ?_
  refine aops_go 2 60 (by kernel_rfl) ?_
  refine aops_end (by kernel_rfl) (then_normal ?_)
  rw [f15bcacac_eq]
  refine aw_cond (t := false) (see_bool (by kernel_rfl) ((by simp; omega) : (((op : Int) == 67)) = false)) ?_
  rw [f15bcacacc_eq]
  refine aw_then ?_
  rw [f15bcacacca_eq]
  refine aw_reg ?_
  refine aops_go 2 60 (by kernel_rfl) ?_
  refine aops_end (by kernel_rfl) (then_normal ?_)
  rw [f15bcacaccc_eq]
  refine aw_cond (t := false) (see_bool (by kernel_rfl) ((by simp; omega) : (((op : Int) == 2)) = false)) ?_
  refine aw_skip (blk_normal (then_normal ?_))
  rw [f15bcc_eq]
  refine aw_then ?_
  rw [f15bcca_eq]
  refine aw_then ?_
  rw [f15bccaa_eq]
  refine aw_reg ?_
  refine aops_go 1 60 (by kernel_rfl) ?_
  refine aops_ask 18 (.string ⟨⟨[]⟩⟩) 38 #[.int .i64 op] (by kernel_rfl) (by kernel_rfl) (by kernel_rfl) (by kernel_rfl) (show some (Value.string (nameV op)) = _ by simp only [nameV, inT_lo h, cond_false]) ?_
  refine aops_go 1 60 (by kernel_rfl) ?_
  refine aops_end (by kernel_rfl) (then_normal ?_)
  rw [f15bccac_eq]
  refine aw_cond (t := true) (by kernel_rfl) ?_
  rw [f15bccaca_eq]
  refine aw_then ?_
  rw [f15bccacaa_eq]
  refine aw_reg ?_
  refine aops_go 1 60 (by kernel_rfl) ?_
  refine aops_end (by kernel_rfl) (then_normal ?_)
  refine aw_ret (then_ret (bodyQ_ret ⟨.int .i64 0, (by kernel_rfl), ?_⟩))
  first
  | (simp only [sizeV, inT_lo h, cond_false]; done)
  | (simp only [sizeV, inT_lo h, cond_false]; congr 1; simp; omega)
theorem f15_hi {op : Int} (h : 70 ≤ op) : ACall Tryd.prog T3 15 #[.int .i64 op] ⟨.lf, 0⟩ fun r _ => r = .int .i64 (sizeV op) := by
  refine acall_of' 20 (initTm 0 #[.int .i64 op]) rfl f15_fn f15_body rfl rfl ?_
  rw [f15b_eq]
  refine aw_then ?_
  rw [f15ba_eq]
  refine aw_reg ?_
  refine aops_go 1 60 (by kernel_rfl) ?_
  refine aops_end (by kernel_rfl) (then_normal ?_)
  rw [f15bc_eq]
  refine aw_then ?_
  rw [f15bca_eq]
  refine aw_then ?_
  rw [f15bcaa_eq]
  refine aw_reg ?_
  refine aops_go 1 60 (by kernel_rfl) ?_
  refine aops_end (by kernel_rfl) (then_normal ?_)
  rw [f15bcac_eq]
  refine aw_block ?_
  rw [f15bcaca_eq]
  refine aw_then ?_
  rw [f15bcacaa_eq]
  refine aw_then ?_
  rw [f15bcacaaa_eq]
  refine aw_reg ?_
  refine aops_go 2 60 (by kernel_rfl) ?_
  refine aops_end (by kernel_rfl) (then_normal ?_)
  rw [f15bcacaac_eq]
  refine aw_cond (t := false) (see_bool (by kernel_rfl) ((by simp; omega) : (((op : Int) == 1)) = false)) ?_
  rw [f15bcacaacc_eq]
  refine aw_then ?_
  rw [f15bcacaacca_eq]
  refine aw_reg ?_
  refine aops_go 2 60 (by kernel_rfl) ?_
  refine aops_end (by kernel_rfl) (then_normal ?_)
  rw [f15bcacaaccc_eq]
  refine aw_cond (t := false) (see_bool (by kernel_rfl) ((by simp; omega) : (((op : Int) == 32)) = false)) ?_
  rw [f15bcacaacccc_eq]
  refine aw_then ?_
  rw [f15bcacaacccca_eq]
  refine aw_reg ?_
  refine aops_go 2 60 (by kernel_rfl) ?_
  refine aops_end (by kernel_rfl) (then_normal ?_)
  rw [f15bcacaaccccc_eq]
  refine aw_cond (t := false) (see_bool (by kernel_rfl) ((by simp; omega) : (((op : Int) == 33)) = false)) ?_
  rw [f15bcacaacccccc_eq]
  refine aw_then ?_
  rw [f15bcacaacccccca_eq]
  refine aw_reg ?_
  refine aops_go 2 60 (by kernel_rfl) ?_
  refine aops_end (by kernel_rfl) (then_normal ?_)
  rw [f15bcacaaccccccc_eq]
  refine aw_cond (t := false) (see_bool (by kernel_rfl) ((by simp; omega) : (((op : Int) == 34)) = false)) ?_
  rw [f15bcacaacccccccc_eq]
  refine aw_then ?_
  rw [f15bcacaacccccccca_eq]
  refine aw_reg ?_
  refine aops_go 2 60 (by kernel_rfl) ?_
  refine aops_end (by kernel_rfl) (then_normal ?_)
  rw [f15bcacaaccccccccc_eq]
  refine aw_cond (t := false) (see_bool (by kernel_rfl) ((by simp; omega) : (((op : Int) == 35)) = false)) ?_
  rw [f15bcacaacccccccccc_eq]
  refine aw_then ?_
  rw [f15bcacaacccccccccca_eq]
  refine aw_reg ?_
  refine aops_go 2 60 (by kernel_rfl) ?_
  refine aops_end (by kernel_rfl) (then_normal ?_)
  rw [f15bcacaaccccccccccc_eq]
  refine aw_cond (t := false) (see_bool (by kernel_rfl) ((by simp; omega) : (((op : Int) == 36)) = false)) ?_
  rw [f15bcacaacccccccccccc_eq]
  refine aw_then ?_
  rw [f15bcacaacccccccccccca_eq]
  refine aw_reg ?_
  refine aops_go 2 60 (by kernel_rfl) ?_
  refine aops_end (by kernel_rfl) (then_normal ?_)
  rw [f15bcacaaccccccccccccc_eq]
  refine aw_cond (t := false) (see_bool (by kernel_rfl) ((by simp; omega) : (((op : Int) == 37)) = false)) ?_
  rw [f15bcacaacccccccccccccc_eq]
  refine aw_then ?_
  rw [f15bcacaacccccccccccccca_eq]
  refine aw_reg ?_
  refine aops_go 2 60 (by kernel_rfl) ?_
  refine aops_end (by kernel_rfl) (then_normal ?_)
  rw [f15bcacaaccccccccccccccc_eq]
  refine aw_cond (t := false) (see_bool (by kernel_rfl) ((by simp; omega) : (((op : Int) == 38)) = false)) ?_
  rw [f15bcacaacccccccccccccccc_eq]
  refine aw_then ?_
  rw [f15bcacaacccccccccccccccca_eq]
  refine aw_reg ?_
  refine aops_go 2 60 (by kernel_rfl) ?_
  refine aops_end (by kernel_rfl) (then_normal ?_)
  rw [f15bcacaaccccccccccccccccc_eq]
  refine aw_cond (t := false) (see_bool (by kernel_rfl) ((by simp; omega) : (((op : Int) == 66)) = false)) ?_
  rw [f15bcacaacccccccccccccccccc_eq]
  refine aw_reg ?_
  refine aops_go 2 60 (by kernel_rfl) ?_
  refine aops_end (by kernel_rfl) (then_normal ?_)
  rw [f15bcacac_eq]
  refine aw_cond (t := false) (see_bool (by kernel_rfl) ((by simp; omega) : (((op : Int) == 67)) = false)) ?_
  rw [f15bcacacc_eq]
  refine aw_then ?_
  rw [f15bcacacca_eq]
  refine aw_reg ?_
  refine aops_go 2 60 (by kernel_rfl) ?_
  refine aops_end (by kernel_rfl) (then_normal ?_)
  rw [f15bcacaccc_eq]
  refine aw_cond (t := false) (see_bool (by kernel_rfl) ((by simp; omega) : (((op : Int) == 2)) = false)) ?_
  refine aw_skip (blk_normal (then_normal ?_))
  rw [f15bcc_eq]
  refine aw_then ?_
  rw [f15bcca_eq]
  refine aw_then ?_
  rw [f15bccaa_eq]
  refine aw_reg ?_
  refine aops_go 1 60 (by kernel_rfl) ?_
  refine aops_ask 18 (.string ⟨⟨[]⟩⟩) 38 #[.int .i64 op] (by kernel_rfl) (by kernel_rfl) (by kernel_rfl) (by kernel_rfl) (show some (Value.string (nameV op)) = _ by simp only [nameV, inT_hi h, cond_false]) ?_
  refine aops_go 1 60 (by kernel_rfl) ?_
  refine aops_end (by kernel_rfl) (then_normal ?_)
  rw [f15bccac_eq]
  refine aw_cond (t := true) (by kernel_rfl) ?_
  rw [f15bccaca_eq]
  refine aw_then ?_
  rw [f15bccacaa_eq]
  refine aw_reg ?_
  refine aops_go 1 60 (by kernel_rfl) ?_
  refine aops_end (by kernel_rfl) (then_normal ?_)
  refine aw_ret (then_ret (bodyQ_ret ⟨.int .i64 0, (by kernel_rfl), ?_⟩))
  first
  | (simp only [sizeV, inT_hi h, cond_false]; done)
  | (simp only [sizeV, inT_hi h, cond_false]; congr 1; simp; omega)
theorem f15_any (op : Int) : ACall Tryd.prog T3 15 #[.int .i64 op] ⟨.lf, 0⟩ fun r _ => r = .int .i64 (sizeV op) := by
  by_cases h : op < 0
  · exact f15_lo h
  · by_cases h2 : 70 ≤ op
    · exact f15_hi (by omega)
    · exact acall_range (N := 70) (k := 300) (g := fun op => .int .i64 (sizeV op)) (by kernel_rfl) (by omega) (by omega)
def sp15 : List Value → Option Value
  | [.int .i64 op] => some (.int .i64 (sizeV op))
  | _ => none
noncomputable def T4 : Tab := { T3 with orc := addOrc T3.orc 15 sp15 }
theorem progOk4 [Bs] : ProgOk Tryd.prog T4 := progOk3.know 15 sp15 fun args v h => by
  unfold sp15 at h
  split at h
  · cases h; exact ⟨rfl, rfl, f15_any _⟩
  · cases h
noncomputable def f29b : Code := Tryd.f29.body.getD .skip
noncomputable def f29ba : Code := cl f29b
noncomputable def f29bao : Array Oper := opsOf f29ba
noncomputable def f29bc : Code := cr f29b
noncomputable def f29bca : Code := cl f29bc
noncomputable def f29bcaa : Code := cl f29bca
noncomputable def f29bcaaa : Code := cl f29bcaa
noncomputable def f29bcaaao : Array Oper := opsOf f29bcaaa
noncomputable def f29bcaac : Code := cr f29bcaa
noncomputable def f29bcaaca : Code := cl f29bcaac
noncomputable def f29bcaacaa : Code := cl f29bcaaca
noncomputable def f29bcaacaao : Array Oper := opsOf f29bcaacaa
noncomputable def f29bcaacc : Code := cr f29bcaac
noncomputable def f29bcaacca : Code := cl f29bcaacc
noncomputable def f29bcaaccao : Array Oper := opsOf f29bcaacca
noncomputable def f29bcaaccc : Code := cr f29bcaacc
noncomputable def f29bcaaccca : Code := cl f29bcaaccc
noncomputable def f29bcaacccaa : Code := cl f29bcaaccca
noncomputable def f29bcaacccaao : Array Oper := opsOf f29bcaacccaa
noncomputable def f29bcaacccc : Code := cr f29bcaaccc
noncomputable def f29bcaacccca : Code := cl f29bcaacccc
noncomputable def f29bcaaccccao : Array Oper := opsOf f29bcaacccca
noncomputable def f29bcaaccccc : Code := cr f29bcaacccc
noncomputable def f29bcaaccccca : Code := cl f29bcaaccccc
noncomputable def f29bcaacccccaa : Code := cl f29bcaaccccca
noncomputable def f29bcaacccccaao : Array Oper := opsOf f29bcaacccccaa
noncomputable def f29bcc : Code := cr f29bc
noncomputable def f29bcca : Code := cl f29bcc
noncomputable def f29bccao : Array Oper := opsOf f29bcca
theorem f29ba_eq : f29ba = .region 0 f29bao false := by kernel_rfl
theorem f29bcaaa_eq : f29bcaaa = .region 1 f29bcaaao false := by kernel_rfl
theorem f29bcaacaa_eq : f29bcaacaa = .region 2 f29bcaacaao false := by kernel_rfl
theorem f29bcaaca_eq : f29bcaaca = .seq f29bcaacaa .ret := by kernel_rfl
theorem f29bcaacca_eq : f29bcaacca = .region 3 f29bcaaccao false := by kernel_rfl
theorem f29bcaacccaa_eq : f29bcaacccaa = .region 4 f29bcaacccaao false := by kernel_rfl
theorem f29bcaaccca_eq : f29bcaaccca = .seq f29bcaacccaa .ret := by kernel_rfl
theorem f29bcaacccca_eq : f29bcaacccca = .region 5 f29bcaaccccao false := by kernel_rfl
theorem f29bcaacccccaa_eq : f29bcaacccccaa = .region 6 f29bcaacccccaao false := by kernel_rfl
theorem f29bcaaccccca_eq : f29bcaaccccca = .seq f29bcaacccccaa .ret := by kernel_rfl
theorem f29bcaaccccc_eq : f29bcaaccccc = .cond (cop f29bcaaccccc) f29bcaaccccca .skip := by kernel_rfl
theorem f29bcaacccc_eq : f29bcaacccc = .seq f29bcaacccca f29bcaaccccc := by kernel_rfl
theorem f29bcaaccc_eq : f29bcaaccc = .cond (cop f29bcaaccc) f29bcaaccca f29bcaacccc := by kernel_rfl
theorem f29bcaacc_eq : f29bcaacc = .seq f29bcaacca f29bcaaccc := by kernel_rfl
theorem f29bcaac_eq : f29bcaac = .cond (cop f29bcaac) f29bcaaca f29bcaacc := by kernel_rfl
theorem f29bcaa_eq : f29bcaa = .seq f29bcaaa f29bcaac := by kernel_rfl
theorem f29bca_eq : f29bca = .block 0 f29bcaa := by kernel_rfl
theorem f29bcca_eq : f29bcca = .region 7 f29bccao false := by kernel_rfl
theorem f29bcc_eq : f29bcc = .seq f29bcca .ret := by kernel_rfl
theorem f29bc_eq : f29bc = .seq f29bca f29bcc := by kernel_rfl
theorem f29b_eq : f29b = .seq f29ba f29bc := by kernel_rfl
theorem f29_body : Tryd.f29.body = some f29b := by kernel_rfl
theorem f29_fn : T4.fn 29 = some Tryd.f29 := by kernel_rfl
theorem f29_lo {op : Int} (h : op < 0) : ACall Tryd.prog T4 29 #[.int .i64 op] ⟨.lf, 0⟩ fun r _ => r = .int .i64 (sizeV op) := by
  refine acall_of' 64 (initTm 0 #[.int .i64 op]) rfl f29_fn f29_body rfl rfl ?_
  rw [f29b_eq]
  refine aw_then ?_
  rw [f29ba_eq]
  refine aw_reg ?_
  refine aops_go 1 60 (by kernel_rfl) ?_
  refine aops_end (by kernel_rfl) (then_normal ?_)
  rw [f29bc_eq]
  refine aw_then ?_
  rw [f29bca_eq]
  refine aw_block ?_
  rw [f29bcaa_eq]
  refine aw_then ?_
  rw [f29bcaaa_eq]
  refine aw_reg ?_
  refine aops_go 3 60 (by kernel_rfl) ?_
  refine aops_end (by kernel_rfl) (then_normal ?_)
  rw [f29bcaac_eq]
  refine aw_cond (t := false) (see_bool (by kernel_rfl) ((by simp; omega) : (((op : Int) == 2)) = false)) ?_
  rw [f29bcaacc_eq]
  refine aw_then ?_
  rw [f29bcaacca_eq]
  refine aw_reg ?_
  refine aops_go 3 60 (by kernel_rfl) ?_
  refine aops_see 9 (.bool false) (see_bool (by kernel_rfl) ((by simp; omega) : (((op : Int) == 1)) = false)) ?_
  refine aops_go 3 60 (by kernel_rfl) ?_
  refine aops_see 12 (.bool false) (see_bool (by kernel_rfl) ((by simp; omega) : ((decide ((op : Int) ≥ 32))) = false)) ?_
  refine aops_go 9 60 (by kernel_rfl) ?_
  refine aops_see 21 (.bool false) (see_bool (by kernel_rfl) ((by simp; omega) : (((op : Int) == 66)) = false)) ?_
  refine aops_go 4 60 (by kernel_rfl) ?_
  refine aops_end (by kernel_rfl) (then_normal ?_)
  rw [f29bcaaccc_eq]
  refine aw_cond (t := false) (see_bool (by kernel_rfl) ((by simp; omega) : (((op : Int) == 67)) = false)) ?_
  rw [f29bcaacccc_eq]
  refine aw_then ?_
  rw [f29bcaacccca_eq]
  refine aw_reg ?_
  refine aops_go 3 60 (by kernel_rfl) ?_
  refine aops_see 28 (.bool false) (see_bool (by kernel_rfl) ((by simp; omega) : ((decide ((op : Int) ≥ 0))) = false)) ?_
  refine aops_go 7 60 (by kernel_rfl) ?_
  refine aops_see 35 (.bool false) (see_bool (by kernel_rfl) ((by simp; omega) : ((decide ((op : Int) ≥ 16))) = false)) ?_
  refine aops_go 9 60 (by kernel_rfl) ?_
  refine aops_see 44 (.bool false) (see_bool (by kernel_rfl) ((by simp; omega) : (((op : Int) == 39)) = false)) ?_
  refine aops_go 4 60 (by kernel_rfl) ?_
  refine aops_see 48 (.bool false) (see_bool (by kernel_rfl) ((by simp; omega) : (((op : Int) == 40)) = false)) ?_
  refine aops_go 3 60 (by kernel_rfl) ?_
  refine aops_see 51 (.bool false) (see_bool (by kernel_rfl) ((by simp; omega) : ((decide ((op : Int) ≥ 48))) = false)) ?_
  refine aops_go 8 60 (by kernel_rfl) ?_
  refine aops_see 59 (.bool false) (see_bool (by kernel_rfl) ((by simp; omega) : ((decide ((op : Int) ≥ 64))) = false)) ?_
  refine aops_go 5 60 (by kernel_rfl) ?_
  refine aops_end (by kernel_rfl) (then_normal ?_)
  rw [f29bcaaccccc_eq]
  refine aw_cond (t := false) (by kernel_rfl) ?_
  refine aw_skip (blk_normal (then_normal ?_))
  rw [f29bcc_eq]
  refine aw_then ?_
  rw [f29bcca_eq]
  refine aw_reg ?_
  refine aops_go 1 60 (by kernel_rfl) ?_
  refine aops_end (by kernel_rfl) (then_normal ?_)
  refine aw_ret (bodyQ_ret ⟨.int .i64 0, (by kernel_rfl), ?_⟩)
  first
  | (simp only [sizeV, inT_lo h, cond_false]; done)
  | (simp only [sizeV, inT_lo h, cond_false]; congr 1; simp; omega)
theorem f29_hi {op : Int} (h : 70 ≤ op) : ACall Tryd.prog T4 29 #[.int .i64 op] ⟨.lf, 0⟩ fun r _ => r = .int .i64 (sizeV op) := by
  refine acall_of' 64 (initTm 0 #[.int .i64 op]) rfl f29_fn f29_body rfl rfl ?_
  rw [f29b_eq]
  refine aw_then ?_
  rw [f29ba_eq]
  refine aw_reg ?_
  refine aops_go 1 60 (by kernel_rfl) ?_
  refine aops_end (by kernel_rfl) (then_normal ?_)
  rw [f29bc_eq]
  refine aw_then ?_
  rw [f29bca_eq]
  refine aw_block ?_
  rw [f29bcaa_eq]
  refine aw_then ?_
  rw [f29bcaaa_eq]
  refine aw_reg ?_
  refine aops_go 3 60 (by kernel_rfl) ?_
  refine aops_end (by kernel_rfl) (then_normal ?_)
  rw [f29bcaac_eq]
  refine aw_cond (t := false) (see_bool (by kernel_rfl) ((by simp; omega) : (((op : Int) == 2)) = false)) ?_
  rw [f29bcaacc_eq]
  refine aw_then ?_
  rw [f29bcaacca_eq]
  refine aw_reg ?_
  refine aops_go 3 60 (by kernel_rfl) ?_
  refine aops_see 9 (.bool false) (see_bool (by kernel_rfl) ((by simp; omega) : (((op : Int) == 1)) = false)) ?_
  refine aops_go 3 60 (by kernel_rfl) ?_
  refine aops_see 12 (.bool true) (see_bool (by kernel_rfl) ((by simp; omega) : ((decide ((op : Int) ≥ 32))) = true)) ?_
  refine aops_go 5 60 (by kernel_rfl) ?_
  refine aops_see 17 (.bool false) (see_bool (by kernel_rfl) ((by simp; omega) : ((decide ((op : Int) ≤ 38))) = false)) ?_
  refine aops_go 4 60 (by kernel_rfl) ?_
  refine aops_see 21 (.bool false) (see_bool (by kernel_rfl) ((by simp; omega) : (((op : Int) == 66)) = false)) ?_
  refine aops_go 4 60 (by kernel_rfl) ?_
  refine aops_end (by kernel_rfl) (then_normal ?_)
  rw [f29bcaaccc_eq]
  refine aw_cond (t := false) (see_bool (by kernel_rfl) ((by simp; omega) : (((op : Int) == 67)) = false)) ?_
  rw [f29bcaacccc_eq]
  refine aw_then ?_
  rw [f29bcaacccca_eq]
  refine aw_reg ?_
  refine aops_go 3 60 (by kernel_rfl) ?_
  refine aops_see 28 (.bool true) (see_bool (by kernel_rfl) ((by simp; omega) : ((decide ((op : Int) ≥ 0))) = true)) ?_
  refine aops_go 4 60 (by kernel_rfl) ?_
  refine aops_see 32 (.bool false) (see_bool (by kernel_rfl) ((by simp; omega) : ((decide ((op : Int) ≤ 8))) = false)) ?_
  refine aops_go 3 60 (by kernel_rfl) ?_
  refine aops_see 35 (.bool true) (see_bool (by kernel_rfl) ((by simp; omega) : ((decide ((op : Int) ≥ 16))) = true)) ?_
  refine aops_go 5 60 (by kernel_rfl) ?_
  refine aops_see 40 (.bool false) (see_bool (by kernel_rfl) ((by simp; omega) : ((decide ((op : Int) ≤ 25))) = false)) ?_
  refine aops_go 4 60 (by kernel_rfl) ?_
  refine aops_see 44 (.bool false) (see_bool (by kernel_rfl) ((by simp; omega) : (((op : Int) == 39)) = false)) ?_
  refine aops_go 4 60 (by kernel_rfl) ?_
  refine aops_see 48 (.bool false) (see_bool (by kernel_rfl) ((by simp; omega) : (((op : Int) == 40)) = false)) ?_
  refine aops_go 3 60 (by kernel_rfl) ?_
  refine aops_see 51 (.bool true) (see_bool (by kernel_rfl) ((by simp; omega) : ((decide ((op : Int) ≥ 48))) = true)) ?_
  refine aops_go 5 60 (by kernel_rfl) ?_
  refine aops_see 56 (.bool false) (see_bool (by kernel_rfl) ((by simp; omega) : ((decide ((op : Int) ≤ 53))) = false)) ?_
  refine aops_go 3 60 (by kernel_rfl) ?_
  refine aops_see 59 (.bool true) (see_bool (by kernel_rfl) ((by simp; omega) : ((decide ((op : Int) ≥ 64))) = true)) ?_
  refine aops_go 5 60 (by kernel_rfl) ?_
  refine aops_end (by kernel_rfl) (then_normal ?_)
  rw [f29bcaaccccc_eq]
  refine aw_cond (t := false) (see_bool (by kernel_rfl) ((by simp; omega) : ((decide ((op : Int) ≤ 69))) = false)) ?_
  refine aw_skip (blk_normal (then_normal ?_))
  rw [f29bcc_eq]
  refine aw_then ?_
  rw [f29bcca_eq]
  refine aw_reg ?_
  refine aops_go 1 60 (by kernel_rfl) ?_
  refine aops_end (by kernel_rfl) (then_normal ?_)
  refine aw_ret (bodyQ_ret ⟨.int .i64 0, (by kernel_rfl), ?_⟩)
  first
  | (simp only [sizeV, inT_hi h, cond_false]; done)
  | (simp only [sizeV, inT_hi h, cond_false]; congr 1; simp; omega)
theorem f29_any (op : Int) : ACall Tryd.prog T4 29 #[.int .i64 op] ⟨.lf, 0⟩ fun r _ => r = .int .i64 (sizeV op) := by
  by_cases h : op < 0
  · exact f29_lo h
  · by_cases h2 : 70 ≤ op
    · exact f29_hi (by omega)
    · exact acall_range (N := 70) (k := 300) (g := fun op => .int .i64 (sizeV op)) (by kernel_rfl) (by omega) (by omega)
def sp29 : List Value → Option Value
  | [.int .i64 op] => some (.int .i64 (sizeV op))
  | _ => none
noncomputable def T5 : Tab := { T4 with orc := addOrc T4.orc 29 sp29 }
theorem progOk5 [Bs] : ProgOk Tryd.prog T5 := progOk4.know 29 sp29 fun args v h => by
  unfold sp29 at h
  split at h
  · cases h; exact ⟨rfl, rfl, f29_any _⟩
  · cases h
noncomputable def f17b : Code := Tryd.f17.body.getD .skip
noncomputable def f17ba : Code := cl f17b
noncomputable def f17bao : Array Oper := opsOf f17ba
noncomputable def f17bc : Code := cr f17b
noncomputable def f17bca : Code := cl f17bc
noncomputable def f17bcao : Array Oper := opsOf f17bca
theorem f17ba_eq : f17ba = .region 0 f17bao false := by kernel_rfl
theorem f17bca_eq : f17bca = .region 1 f17bcao false := by kernel_rfl
theorem f17bc_eq : f17bc = .seq f17bca .ret := by kernel_rfl
theorem f17b_eq : f17b = .seq f17ba f17bc := by kernel_rfl
theorem f17_body : Tryd.f17.body = some f17b := by kernel_rfl
theorem f17_fn : T5.fn 17 = some Tryd.f17 := by kernel_rfl
theorem f17_lo {op : Int} (h : op < 0) : ACall Tryd.prog T5 17 #[.int .i64 op] ⟨.lf, 0⟩ fun r _ => r = .bool (endsV op) := by
  refine acall_of' 17 (initTm 0 #[.int .i64 op]) rfl f17_fn f17_body rfl rfl ?_
  rw [f17b_eq]
  refine aw_then ?_
  rw [f17ba_eq]
  refine aw_reg ?_
  refine aops_go 1 60 (by kernel_rfl) ?_
  refine aops_end (by kernel_rfl) (then_normal ?_)
  rw [f17bc_eq]
  refine aw_then ?_
  rw [f17bca_eq]
  refine aw_reg ?_
  refine aops_go 3 60 (by kernel_rfl) ?_
  refine aops_see 5 (.bool false) (see_bool (by kernel_rfl) ((by simp; omega) : ((decide ((op : Int) ≥ 32))) = false)) ?_
  refine aops_go 7 60 (by kernel_rfl) ?_
  refine aops_see 12 (.bool false) (see_bool (by kernel_rfl) ((by simp; omega) : ((decide ((op : Int) ≥ 64))) = false)) ?_
  refine aops_go 5 60 (by kernel_rfl) ?_
  refine aops_end (by kernel_rfl) (then_normal ?_)
  refine aw_ret (bodyQ_ret ⟨.bool false, (by kernel_rfl), ?_⟩)
  first
  | (simp only [endsV, inT_lo h, cond_false]; done)
  | (simp only [endsV, inT_lo h, cond_false]; congr 1; simp; omega)
theorem f17_hi {op : Int} (h : 70 ≤ op) : ACall Tryd.prog T5 17 #[.int .i64 op] ⟨.lf, 0⟩ fun r _ => r = .bool (endsV op) := by
  refine acall_of' 17 (initTm 0 #[.int .i64 op]) rfl f17_fn f17_body rfl rfl ?_
  rw [f17b_eq]
  refine aw_then ?_
  rw [f17ba_eq]
  refine aw_reg ?_
  refine aops_go 1 60 (by kernel_rfl) ?_
  refine aops_end (by kernel_rfl) (then_normal ?_)
  rw [f17bc_eq]
  refine aw_then ?_
  rw [f17bca_eq]
  refine aw_reg ?_
  refine aops_go 3 60 (by kernel_rfl) ?_
  refine aops_see 5 (.bool true) (see_bool (by kernel_rfl) ((by simp; omega) : ((decide ((op : Int) ≥ 32))) = true)) ?_
  refine aops_go 4 60 (by kernel_rfl) ?_
  refine aops_see 9 (.bool false) (see_bool (by kernel_rfl) ((by simp; omega) : ((decide ((op : Int) ≤ 40))) = false)) ?_
  refine aops_go 3 60 (by kernel_rfl) ?_
  refine aops_see 12 (.bool true) (see_bool (by kernel_rfl) ((by simp; omega) : ((decide ((op : Int) ≥ 64))) = true)) ?_
  refine aops_go 5 60 (by kernel_rfl) ?_
  refine aops_end (by kernel_rfl) (then_normal ?_)
  refine aw_ret (bodyQ_ret ⟨.bool (decide ((op : Int) ≤ 69)), (by kernel_rfl), ?_⟩)
  first
  | (simp only [endsV, inT_hi h, cond_false]; done)
  | (simp only [endsV, inT_hi h, cond_false]; congr 1; simp; omega)
theorem f17_any (op : Int) : ACall Tryd.prog T5 17 #[.int .i64 op] ⟨.lf, 0⟩ fun r _ => r = .bool (endsV op) := by
  by_cases h : op < 0
  · exact f17_lo h
  · by_cases h2 : 70 ≤ op
    · exact f17_hi (by omega)
    · exact acall_range (N := 70) (k := 300) (g := fun op => .bool (endsV op)) (by kernel_rfl) (by omega) (by omega)
def sp17 : List Value → Option Value
  | [.int .i64 op] => some (.bool (endsV op))
  | _ => none
noncomputable def T6 : Tab := { T5 with orc := addOrc T5.orc 17 sp17 }
theorem progOk6 [Bs] : ProgOk Tryd.prog T6 := progOk5.know 17 sp17 fun args v h => by
  unfold sp17 at h
  split at h
  · cases h; exact ⟨rfl, rfl, f17_any _⟩
  · cases h
noncomputable def f32b : Code := Tryd.f32.body.getD .skip
noncomputable def f32ba : Code := cl f32b
noncomputable def f32bao : Array Oper := opsOf f32ba
noncomputable def f32bc : Code := cr f32b
noncomputable def f32bca : Code := cl f32bc
noncomputable def f32bcao : Array Oper := opsOf f32bca
theorem f32ba_eq : f32ba = .region 0 f32bao false := by kernel_rfl
theorem f32bca_eq : f32bca = .region 1 f32bcao false := by kernel_rfl
theorem f32bc_eq : f32bc = .seq f32bca .ret := by kernel_rfl
theorem f32b_eq : f32b = .seq f32ba f32bc := by kernel_rfl
theorem f32_body : Tryd.f32.body = some f32b := by kernel_rfl
theorem f32_fn : T6.fn 32 = some Tryd.f32 := by kernel_rfl
theorem f32_lo {op : Int} (h : op < 0) : ACall Tryd.prog T6 32 #[.int .i64 op] ⟨.lf, 0⟩ fun r _ => r = .bool (endsV op) := by
  refine acall_of' 17 (initTm 0 #[.int .i64 op]) rfl f32_fn f32_body rfl rfl ?_
  rw [f32b_eq]
  refine aw_then ?_
  rw [f32ba_eq]
  refine aw_reg ?_
  refine aops_go 1 60 (by kernel_rfl) ?_
  refine aops_end (by kernel_rfl) (then_normal ?_)
  rw [f32bc_eq]
  refine aw_then ?_
  rw [f32bca_eq]
  refine aw_reg ?_
  refine aops_go 3 60 (by kernel_rfl) ?_
  refine aops_see 5 (.bool false) (see_bool (by kernel_rfl) ((by simp; omega) : ((decide ((op : Int) ≥ 32))) = false)) ?_
  refine aops_go 7 60 (by kernel_rfl) ?_
  refine aops_see 12 (.bool false) (see_bool (by kernel_rfl) ((by simp; omega) : ((decide ((op : Int) ≥ 64))) = false)) ?_
  refine aops_go 5 60 (by kernel_rfl) ?_
  refine aops_end (by kernel_rfl) (then_normal ?_)
  refine aw_ret (bodyQ_ret ⟨.bool false, (by kernel_rfl), ?_⟩)
  first
  | (simp only [endsV, inT_lo h, cond_false]; done)
  | (simp only [endsV, inT_lo h, cond_false]; congr 1; simp; omega)
theorem f32_hi {op : Int} (h : 70 ≤ op) : ACall Tryd.prog T6 32 #[.int .i64 op] ⟨.lf, 0⟩ fun r _ => r = .bool (endsV op) := by
  refine acall_of' 17 (initTm 0 #[.int .i64 op]) rfl f32_fn f32_body rfl rfl ?_
  rw [f32b_eq]
  refine aw_then ?_
  rw [f32ba_eq]
  refine aw_reg ?_
  refine aops_go 1 60 (by kernel_rfl) ?_
  refine aops_end (by kernel_rfl) (then_normal ?_)
  rw [f32bc_eq]
  refine aw_then ?_
  rw [f32bca_eq]
  refine aw_reg ?_
  refine aops_go 3 60 (by kernel_rfl) ?_
  refine aops_see 5 (.bool true) (see_bool (by kernel_rfl) ((by simp; omega) : ((decide ((op : Int) ≥ 32))) = true)) ?_
  refine aops_go 4 60 (by kernel_rfl) ?_
  refine aops_see 9 (.bool false) (see_bool (by kernel_rfl) ((by simp; omega) : ((decide ((op : Int) ≤ 40))) = false)) ?_
  refine aops_go 3 60 (by kernel_rfl) ?_
  refine aops_see 12 (.bool true) (see_bool (by kernel_rfl) ((by simp; omega) : ((decide ((op : Int) ≥ 64))) = true)) ?_
  refine aops_go 5 60 (by kernel_rfl) ?_
  refine aops_end (by kernel_rfl) (then_normal ?_)
  refine aw_ret (bodyQ_ret ⟨.bool (decide ((op : Int) ≤ 69)), (by kernel_rfl), ?_⟩)
  first
  | (simp only [endsV, inT_hi h, cond_false]; done)
  | (simp only [endsV, inT_hi h, cond_false]; congr 1; simp; omega)
theorem f32_any (op : Int) : ACall Tryd.prog T6 32 #[.int .i64 op] ⟨.lf, 0⟩ fun r _ => r = .bool (endsV op) := by
  by_cases h : op < 0
  · exact f32_lo h
  · by_cases h2 : 70 ≤ op
    · exact f32_hi (by omega)
    · exact acall_range (N := 70) (k := 300) (g := fun op => .bool (endsV op)) (by kernel_rfl) (by omega) (by omega)
def sp32 : List Value → Option Value
  | [.int .i64 op] => some (.bool (endsV op))
  | _ => none
noncomputable def T7 : Tab := { T6 with orc := addOrc T6.orc 32 sp32 }
theorem progOk7 [Bs] : ProgOk Tryd.prog T7 := progOk6.know 32 sp32 fun args v h => by
  unfold sp32 at h
  split at h
  · cases h; exact ⟨rfl, rfl, f32_any _⟩
  · cases h
noncomputable def f18b : Code := Tryd.f18.body.getD .skip
noncomputable def f18ba : Code := cl f18b
noncomputable def f18bao : Array Oper := opsOf f18ba
noncomputable def f18bc : Code := cr f18b
noncomputable def f18bca : Code := cl f18bc
noncomputable def f18bcaa : Code := cl f18bca
noncomputable def f18bcaaa : Code := cl f18bcaa
noncomputable def f18bcaaaa : Code := cl f18bcaaa
noncomputable def f18bcaaaao : Array Oper := opsOf f18bcaaaa
noncomputable def f18bcaaac : Code := cr f18bcaaa
noncomputable def f18bcaaacc : Code := cr f18bcaaac
noncomputable def f18bcaaacco : Array Oper := opsOf f18bcaaacc
noncomputable def f18bcaac : Code := cr f18bcaa
noncomputable def f18bcaaca : Code := cl f18bcaac
noncomputable def f18bcaacaa : Code := cl f18bcaaca
noncomputable def f18bcaacaao : Array Oper := opsOf f18bcaacaa
noncomputable def f18bcc : Code := cr f18bc
noncomputable def f18bcca : Code := cl f18bcc
noncomputable def f18bccao : Array Oper := opsOf f18bcca
theorem f18ba_eq : f18ba = .region 0 f18bao false := by kernel_rfl
theorem f18bcaaaa_eq : f18bcaaaa = .region 1 f18bcaaaao false := by kernel_rfl
theorem f18bcaaacc_eq : f18bcaaacc = .region 2 f18bcaaacco false := by kernel_rfl
theorem f18bcaaac_eq : f18bcaaac = .cond (cop f18bcaaac) .skip f18bcaaacc := by kernel_rfl
theorem f18bcaaa_eq : f18bcaaa = .seq f18bcaaaa f18bcaaac := by kernel_rfl
theorem f18bcaacaa_eq : f18bcaacaa = .region 3 f18bcaacaao false := by kernel_rfl
theorem f18bcaaca_eq : f18bcaaca = .seq f18bcaacaa .ret := by kernel_rfl
theorem f18bcaac_eq : f18bcaac = .cond (cop f18bcaac) f18bcaaca .skip := by kernel_rfl
theorem f18bcaa_eq : f18bcaa = .seq f18bcaaa f18bcaac := by kernel_rfl
theorem f18bca_eq : f18bca = .block 0 f18bcaa := by kernel_rfl
theorem f18bcca_eq : f18bcca = .region 4 f18bccao false := by kernel_rfl
theorem f18bcc_eq : f18bcc = .seq f18bcca .ret := by kernel_rfl
theorem f18bc_eq : f18bc = .seq f18bca f18bcc := by kernel_rfl
theorem f18b_eq : f18b = .seq f18ba f18bc := by kernel_rfl
theorem f18_body : Tryd.f18.body = some f18b := by kernel_rfl
theorem f18_fn : T7.fn 18 = some Tryd.f18 := by kernel_rfl
theorem f18_lo {op : Int} (h : op < 0) : ACall Tryd.prog T7 18 #[.int .i64 op] ⟨.lf, 0⟩ fun r _ => r = .bool (plainV op) := by
  refine acall_of' 26 (initTm 0 #[.int .i64 op]) rfl f18_fn f18_body rfl rfl ?_
  rw [f18b_eq]
  refine aw_then ?_
  rw [f18ba_eq]
  refine aw_reg ?_
  refine aops_go 1 60 (by kernel_rfl) ?_
  refine aops_end (by kernel_rfl) (then_normal ?_)
  rw [f18bc_eq]
  refine aw_then ?_
  rw [f18bca_eq]
  refine aw_block ?_
  rw [f18bcaa_eq]
  refine aw_then ?_
  rw [f18bcaaa_eq]
  refine aw_then ?_
  rw [f18bcaaaa_eq]
  refine aw_reg ?_
  refine aops_go 3 60 (by kernel_rfl) ?_
  refine aops_see 6 (.bool false) (see_bool (by kernel_rfl) ((by simp; omega) : ((decide ((op : Int) ≥ 0))) = false)) ?_
  refine aops_go 4 60 (by kernel_rfl) ?_
  refine aops_end (by kernel_rfl) (then_normal ?_)
  rw [f18bcaaac_eq]
  refine aw_cond (t := false) (by kernel_rfl) ?_
  rw [f18bcaaacc_eq]
  refine aw_reg ?_
  refine aops_go 3 60 (by kernel_rfl) ?_
  refine aops_see 12 (.bool false) (see_bool (by kernel_rfl) ((by simp; omega) : ((decide ((op : Int) ≥ 32))) = false)) ?_
  refine aops_go 4 60 (by kernel_rfl) ?_
  refine aops_end (by kernel_rfl) (then_normal ?_)
  rw [f18bcaac_eq]
  refine aw_cond (t := false) (by kernel_rfl) ?_
  refine aw_skip (blk_normal (then_normal ?_))
  rw [f18bcc_eq]
  refine aw_then ?_
  rw [f18bcca_eq]
  refine aw_reg ?_
  refine aops_go 3 60 (by kernel_rfl) ?_
  refine aops_see 18 (.bool false) (see_bool (by kernel_rfl) ((by simp; omega) : ((decide ((op : Int) ≥ 16))) = false)) ?_
  refine aops_go 8 60 (by kernel_rfl) ?_
  refine aops_end (by kernel_rfl) (then_normal ?_)
  refine aw_ret (bodyQ_ret ⟨.bool false, (by kernel_rfl), ?_⟩)
  first
  | (simp only [plainV, inT_lo h, cond_false]; done)
  | (simp only [plainV, inT_lo h, cond_false]; congr 1; simp; omega)
theorem f18_hi {op : Int} (h : 70 ≤ op) : ACall Tryd.prog T7 18 #[.int .i64 op] ⟨.lf, 0⟩ fun r _ => r = .bool (plainV op) := by
  refine acall_of' 26 (initTm 0 #[.int .i64 op]) rfl f18_fn f18_body rfl rfl ?_
  rw [f18b_eq]
  refine aw_then ?_
  rw [f18ba_eq]
  refine aw_reg ?_
  refine aops_go 1 60 (by kernel_rfl) ?_
  refine aops_end (by kernel_rfl) (then_normal ?_)
  rw [f18bc_eq]
  refine aw_then ?_
  rw [f18bca_eq]
  refine aw_block ?_
  rw [f18bcaa_eq]
  refine aw_then ?_
  rw [f18bcaaa_eq]
  refine aw_then ?_
  rw [f18bcaaaa_eq]
  refine aw_reg ?_
  refine aops_go 3 60 (by kernel_rfl) ?_
  refine aops_see 6 (.bool true) (see_bool (by kernel_rfl) ((by simp; omega) : ((decide ((op : Int) ≥ 0))) = true)) ?_
  refine aops_go 4 60 (by kernel_rfl) ?_
  refine aops_end (by kernel_rfl) (then_normal ?_)
  rw [f18bcaaac_eq]
  refine aw_cond (t := false) (see_bool (by kernel_rfl) ((by simp; omega) : ((decide ((op : Int) ≤ 8))) = false)) ?_
  rw [f18bcaaacc_eq]
  refine aw_reg ?_
  refine aops_go 3 60 (by kernel_rfl) ?_
  refine aops_see 12 (.bool true) (see_bool (by kernel_rfl) ((by simp; omega) : ((decide ((op : Int) ≥ 32))) = true)) ?_
  refine aops_go 4 60 (by kernel_rfl) ?_
  refine aops_end (by kernel_rfl) (then_normal ?_)
  rw [f18bcaac_eq]
  refine aw_cond (t := false) (see_bool (by kernel_rfl) ((by simp; omega) : ((decide ((op : Int) ≤ 40))) = false)) ?_
  refine aw_skip (blk_normal (then_normal ?_))
  rw [f18bcc_eq]
  refine aw_then ?_
  rw [f18bcca_eq]
  refine aw_reg ?_
  refine aops_go 3 60 (by kernel_rfl) ?_
  refine aops_see 18 (.bool true) (see_bool (by kernel_rfl) ((by simp; omega) : ((decide ((op : Int) ≥ 16))) = true)) ?_
  refine aops_go 4 60 (by kernel_rfl) ?_
  refine aops_see 22 (.bool false) (see_bool (by kernel_rfl) ((by simp; omega) : ((decide ((op : Int) ≤ 25))) = false)) ?_
  refine aops_go 4 60 (by kernel_rfl) ?_
  refine aops_end (by kernel_rfl) (then_normal ?_)
  refine aw_ret (bodyQ_ret ⟨.bool false, (by kernel_rfl), ?_⟩)
  first
  | (simp only [plainV, inT_hi h, cond_false]; done)
  | (simp only [plainV, inT_hi h, cond_false]; congr 1; simp; omega)
theorem f18_any (op : Int) : ACall Tryd.prog T7 18 #[.int .i64 op] ⟨.lf, 0⟩ fun r _ => r = .bool (plainV op) := by
  by_cases h : op < 0
  · exact f18_lo h
  · by_cases h2 : 70 ≤ op
    · exact f18_hi (by omega)
    · exact acall_range (N := 70) (k := 300) (g := fun op => .bool (plainV op)) (by kernel_rfl) (by omega) (by omega)
def sp18 : List Value → Option Value
  | [.int .i64 op] => some (.bool (plainV op))
  | _ => none
noncomputable def T8 : Tab := { T7 with orc := addOrc T7.orc 18 sp18 }
theorem progOk8 [Bs] : ProgOk Tryd.prog T8 := progOk7.know 18 sp18 fun args v h => by
  unfold sp18 at h
  split at h
  · cases h; exact ⟨rfl, rfl, f18_any _⟩
  · cases h
noncomputable def f33b : Code := Tryd.f33.body.getD .skip
noncomputable def f33ba : Code := cl f33b
noncomputable def f33bao : Array Oper := opsOf f33ba
noncomputable def f33bc : Code := cr f33b
noncomputable def f33bca : Code := cl f33bc
noncomputable def f33bcao : Array Oper := opsOf f33bca
theorem f33ba_eq : f33ba = .region 0 f33bao false := by kernel_rfl
theorem f33bca_eq : f33bca = .region 1 f33bcao false := by kernel_rfl
theorem f33bc_eq : f33bc = .seq f33bca .ret := by kernel_rfl
theorem f33b_eq : f33b = .seq f33ba f33bc := by kernel_rfl
theorem f33_body : Tryd.f33.body = some f33b := by kernel_rfl
theorem f33_fn : T8.fn 33 = some Tryd.f33 := by kernel_rfl
theorem f33_lo {op : Int} (h : op < 0) : ACall Tryd.prog T8 33 #[.int .i64 op] ⟨.lf, 0⟩ fun r _ => r = .bool (plainV op) := by
  refine acall_of' 29 (initTm 0 #[.int .i64 op]) rfl f33_fn f33_body rfl rfl ?_
  rw [f33b_eq]
  refine aw_then ?_
  rw [f33ba_eq]
  refine aw_reg ?_
  refine aops_go 1 60 (by kernel_rfl) ?_
  refine aops_end (by kernel_rfl) (then_normal ?_)
  rw [f33bc_eq]
  refine aw_then ?_
  rw [f33bca_eq]
  refine aw_reg ?_
  refine aops_go 3 60 (by kernel_rfl) ?_
  refine aops_see 5 (.bool false) (see_bool (by kernel_rfl) ((by simp; omega) : ((decide ((op : Int) ≥ 0))) = false)) ?_
  refine aops_go 7 60 (by kernel_rfl) ?_
  refine aops_see 12 (.bool false) (see_bool (by kernel_rfl) ((by simp; omega) : ((decide ((op : Int) ≥ 16))) = false)) ?_
  refine aops_go 12 60 (by kernel_rfl) ?_
  refine aops_see 24 (.bool false) (see_bool (by kernel_rfl) ((by simp; omega) : ((decide ((op : Int) ≥ 32))) = false)) ?_
  refine aops_go 5 60 (by kernel_rfl) ?_
  refine aops_end (by kernel_rfl) (then_normal ?_)
  refine aw_ret (bodyQ_ret ⟨.bool false, (by kernel_rfl), ?_⟩)
  first
  | (simp only [plainV, inT_lo h, cond_false]; done)
  | (simp only [plainV, inT_lo h, cond_false]; congr 1; simp; omega)
theorem f33_hi {op : Int} (h : 70 ≤ op) : ACall Tryd.prog T8 33 #[.int .i64 op] ⟨.lf, 0⟩ fun r _ => r = .bool (plainV op) := by
  refine acall_of' 29 (initTm 0 #[.int .i64 op]) rfl f33_fn f33_body rfl rfl ?_
  rw [f33b_eq]
  refine aw_then ?_
  rw [f33ba_eq]
  refine aw_reg ?_
  refine aops_go 1 60 (by kernel_rfl) ?_
  refine aops_end (by kernel_rfl) (then_normal ?_)
  rw [f33bc_eq]
  refine aw_then ?_
  rw [f33bca_eq]
  refine aw_reg ?_
  refine aops_go 3 60 (by kernel_rfl) ?_
  refine aops_see 5 (.bool true) (see_bool (by kernel_rfl) ((by simp; omega) : ((decide ((op : Int) ≥ 0))) = true)) ?_
  refine aops_go 4 60 (by kernel_rfl) ?_
  refine aops_see 9 (.bool false) (see_bool (by kernel_rfl) ((by simp; omega) : ((decide ((op : Int) ≤ 8))) = false)) ?_
  refine aops_go 3 60 (by kernel_rfl) ?_
  refine aops_see 12 (.bool true) (see_bool (by kernel_rfl) ((by simp; omega) : ((decide ((op : Int) ≥ 16))) = true)) ?_
  refine aops_go 4 60 (by kernel_rfl) ?_
  refine aops_see 16 (.bool false) (see_bool (by kernel_rfl) ((by simp; omega) : ((decide ((op : Int) ≤ 25))) = false)) ?_
  refine aops_go 8 60 (by kernel_rfl) ?_
  refine aops_see 24 (.bool true) (see_bool (by kernel_rfl) ((by simp; omega) : ((decide ((op : Int) ≥ 32))) = true)) ?_
  refine aops_go 5 60 (by kernel_rfl) ?_
  refine aops_end (by kernel_rfl) (then_normal ?_)
  refine aw_ret (bodyQ_ret ⟨.bool (decide ((op : Int) ≤ 40)), (by kernel_rfl), ?_⟩)
  first
  | (simp only [plainV, inT_hi h, cond_false]; done)
  | (simp only [plainV, inT_hi h, cond_false]; congr 1; simp; omega)
theorem f33_any (op : Int) : ACall Tryd.prog T8 33 #[.int .i64 op] ⟨.lf, 0⟩ fun r _ => r = .bool (plainV op) := by
  by_cases h : op < 0
  · exact f33_lo h
  · by_cases h2 : 70 ≤ op
    · exact f33_hi (by omega)
    · exact acall_range (N := 70) (k := 300) (g := fun op => .bool (plainV op)) (by kernel_rfl) (by omega) (by omega)
def sp33 : List Value → Option Value
  | [.int .i64 op] => some (.bool (plainV op))
  | _ => none
noncomputable def T9 : Tab := { T8 with orc := addOrc T8.orc 33 sp33 }
theorem progOk9 [Bs] : ProgOk Tryd.prog T9 := progOk8.know 33 sp33 fun args v h => by
  unfold sp33 at h
  split at h
  · cases h; exact ⟨rfl, rfl, f33_any _⟩
  · cases h
noncomputable def f16b : Code := Tryd.f16.body.getD .skip
noncomputable def f16ba : Code := cl f16b
noncomputable def f16bao : Array Oper := opsOf f16ba
noncomputable def f16bc : Code := cr f16b
noncomputable def f16bca : Code := cl f16bc
noncomputable def f16bcao : Array Oper := opsOf f16bca
theorem f16ba_eq : f16ba = .region 0 f16bao false := by kernel_rfl
theorem f16bca_eq : f16bca = .region 1 f16bcao false := by kernel_rfl
theorem f16bc_eq : f16bc = .seq f16bca .ret := by kernel_rfl
theorem f16b_eq : f16b = .seq f16ba f16bc := by kernel_rfl
theorem f16_body : Tryd.f16.body = some f16b := by kernel_rfl
theorem f16_fn : T9.fn 16 = some Tryd.f16 := by kernel_rfl
theorem f16_lo {op : Int} (h : op < 0) : ACall Tryd.prog T9 16 #[.int .i64 op] ⟨.lf, 0⟩ fun r _ => r = .bool (superV op) := by
  refine acall_of' 9 (initTm 0 #[.int .i64 op]) rfl f16_fn f16_body rfl rfl ?_
  rw [f16b_eq]
  refine aw_then ?_
  rw [f16ba_eq]
  refine aw_reg ?_
  refine aops_go 1 60 (by kernel_rfl) ?_
  refine aops_end (by kernel_rfl) (then_normal ?_)
  rw [f16bc_eq]
  refine aw_then ?_
  rw [f16bca_eq]
  refine aw_reg ?_
  refine aops_go 3 60 (by kernel_rfl) ?_
  refine aops_see 5 (.bool false) (see_bool (by kernel_rfl) ((by simp; omega) : ((decide ((op : Int) ≥ 65))) = false)) ?_
  refine aops_go 4 60 (by kernel_rfl) ?_
  refine aops_end (by kernel_rfl) (then_normal ?_)
  refine aw_ret (bodyQ_ret ⟨.bool false, (by kernel_rfl), ?_⟩)
  first
  | (simp only [superV, inT_lo h, cond_false]; done)
  | (simp only [superV, inT_lo h, cond_false]; congr 1; simp; omega)
theorem f16_hi {op : Int} (h : 70 ≤ op) : ACall Tryd.prog T9 16 #[.int .i64 op] ⟨.lf, 0⟩ fun r _ => r = .bool (superV op) := by
  refine acall_of' 9 (initTm 0 #[.int .i64 op]) rfl f16_fn f16_body rfl rfl ?_
  rw [f16b_eq]
  refine aw_then ?_
  rw [f16ba_eq]
  refine aw_reg ?_
  refine aops_go 1 60 (by kernel_rfl) ?_
  refine aops_end (by kernel_rfl) (then_normal ?_)
  rw [f16bc_eq]
  refine aw_then ?_
  rw [f16bca_eq]
  refine aw_reg ?_
  refine aops_go 3 60 (by kernel_rfl) ?_
  refine aops_see 5 (.bool true) (see_bool (by kernel_rfl) ((by simp; omega) : ((decide ((op : Int) ≥ 65))) = true)) ?_
  refine aops_go 4 60 (by kernel_rfl) ?_
  refine aops_end (by kernel_rfl) (then_normal ?_)
  refine aw_ret (bodyQ_ret ⟨.bool (decide ((op : Int) ≤ 69)), (by kernel_rfl), ?_⟩)
  first
  | (simp only [superV, inT_hi h, cond_false]; done)
  | (simp only [superV, inT_hi h, cond_false]; congr 1; simp; omega)
theorem f16_any (op : Int) : ACall Tryd.prog T9 16 #[.int .i64 op] ⟨.lf, 0⟩ fun r _ => r = .bool (superV op) := by
  by_cases h : op < 0
  · exact f16_lo h
  · by_cases h2 : 70 ≤ op
    · exact f16_hi (by omega)
    · exact acall_range (N := 70) (k := 300) (g := fun op => .bool (superV op)) (by kernel_rfl) (by omega) (by omega)
def sp16 : List Value → Option Value
  | [.int .i64 op] => some (.bool (superV op))
  | _ => none
noncomputable def T10 : Tab := { T9 with orc := addOrc T9.orc 16 sp16 }
theorem progOk10 [Bs] : ProgOk Tryd.prog T10 := progOk9.know 16 sp16 fun args v h => by
  unfold sp16 at h
  split at h
  · cases h; exact ⟨rfl, rfl, f16_any _⟩
  · cases h
noncomputable def f34b : Code := Tryd.f34.body.getD .skip
noncomputable def f34ba : Code := cl f34b
noncomputable def f34bao : Array Oper := opsOf f34ba
noncomputable def f34bc : Code := cr f34b
noncomputable def f34bca : Code := cl f34bc
noncomputable def f34bcao : Array Oper := opsOf f34bca
theorem f34ba_eq : f34ba = .region 0 f34bao false := by kernel_rfl
theorem f34bca_eq : f34bca = .region 1 f34bcao false := by kernel_rfl
theorem f34bc_eq : f34bc = .seq f34bca .ret := by kernel_rfl
theorem f34b_eq : f34b = .seq f34ba f34bc := by kernel_rfl
theorem f34_body : Tryd.f34.body = some f34b := by kernel_rfl
theorem f34_fn : T10.fn 34 = some Tryd.f34 := by kernel_rfl
theorem f34_lo {op : Int} (h : op < 0) : ACall Tryd.prog T10 34 #[.int .i64 op] ⟨.lf, 0⟩ fun r _ => r = .bool (superV op) := by
  refine acall_of' 9 (initTm 0 #[.int .i64 op]) rfl f34_fn f34_body rfl rfl ?_
  rw [f34b_eq]
  refine aw_then ?_
  rw [f34ba_eq]
  refine aw_reg ?_
  refine aops_go 1 60 (by kernel_rfl) ?_
  refine aops_end (by kernel_rfl) (then_normal ?_)
  rw [f34bc_eq]
  refine aw_then ?_
  rw [f34bca_eq]
  refine aw_reg ?_
  refine aops_go 3 60 (by kernel_rfl) ?_
  refine aops_see 5 (.bool false) (see_bool (by kernel_rfl) ((by simp; omega) : ((decide ((op : Int) ≥ 65))) = false)) ?_
  refine aops_go 4 60 (by kernel_rfl) ?_
  refine aops_end (by kernel_rfl) (then_normal ?_)
  refine aw_ret (bodyQ_ret ⟨.bool false, (by kernel_rfl), ?_⟩)
  first
  | (simp only [superV, inT_lo h, cond_false]; done)
  | (simp only [superV, inT_lo h, cond_false]; congr 1; simp; omega)
theorem f34_hi {op : Int} (h : 70 ≤ op) : ACall Tryd.prog T10 34 #[.int .i64 op] ⟨.lf, 0⟩ fun r _ => r = .bool (superV op) := by
  refine acall_of' 9 (initTm 0 #[.int .i64 op]) rfl f34_fn f34_body rfl rfl ?_
  rw [f34b_eq]
  refine aw_then ?_
  rw [f34ba_eq]
  refine aw_reg ?_
  refine aops_go 1 60 (by kernel_rfl) ?_
  refine aops_end (by kernel_rfl) (then_normal ?_)
  rw [f34bc_eq]
  refine aw_then ?_
  rw [f34bca_eq]
  refine aw_reg ?_
  refine aops_go 3 60 (by kernel_rfl) ?_
  refine aops_see 5 (.bool true) (see_bool (by kernel_rfl) ((by simp; omega) : ((decide ((op : Int) ≥ 65))) = true)) ?_
  refine aops_go 4 60 (by kernel_rfl) ?_
  refine aops_end (by kernel_rfl) (then_normal ?_)
  refine aw_ret (bodyQ_ret ⟨.bool (decide ((op : Int) ≤ 69)), (by kernel_rfl), ?_⟩)
  first
  | (simp only [superV, inT_hi h, cond_false]; done)
  | (simp only [superV, inT_hi h, cond_false]; congr 1; simp; omega)
theorem f34_any (op : Int) : ACall Tryd.prog T10 34 #[.int .i64 op] ⟨.lf, 0⟩ fun r _ => r = .bool (superV op) := by
  by_cases h : op < 0
  · exact f34_lo h
  · by_cases h2 : 70 ≤ op
    · exact f34_hi (by omega)
    · exact acall_range (N := 70) (k := 300) (g := fun op => .bool (superV op)) (by kernel_rfl) (by omega) (by omega)
def sp34 : List Value → Option Value
  | [.int .i64 op] => some (.bool (superV op))
  | _ => none
noncomputable def T11 : Tab := { T10 with orc := addOrc T10.orc 34 sp34 }
theorem progOk11 [Bs] : ProgOk Tryd.prog T11 := progOk10.know 34 sp34 fun args v h => by
  unfold sp34 at h
  split at h
  · cases h; exact ⟨rfl, rfl, f34_any _⟩
  · cases h
end Gc
end Go.Proofs.YtpfmmckbfejfnaaDoor
