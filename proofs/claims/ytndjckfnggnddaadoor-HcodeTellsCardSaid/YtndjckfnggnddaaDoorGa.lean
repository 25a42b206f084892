/- Chapter 3: what is told of an operation, and the calls of data on it. -/
import Derived.Test.YtndjckfnggnddaaDoorGha
import Derived.Test.YtndjckfnggnddaaDoorEvSd
import Derived.WalkKit
import Derived.Lib.Hide
import Derived.RegionTactic
namespace Go.Proofs.YtndjckfnggnddaaDoor
open Go Go.Ev Go.RowKit
set_option linter.unusedVariables false
set_option linter.unusedSimpArgs false
set_option maxRecDepth 100000
namespace Hc
def inT (op : Int) : Bool := decide (0 ≤ op) && decide (op < 20)
def fieldT : List Int := [0, 9, 3, 7, 7, 7, 7, 7, 7, 7, 7, 7, 7, 7, 11, 14, 10, 10, 8, 8]
def rdT : List Bool := [false, true, true, true, true, true, true, true, true, true, true, true, true, true, true, false, false, false, false, false]
def raT : List Bool := [false, false, true, true, true, true, true, true, true, true, true, true, true, true, true, true, true, true, false, false]
def rbT : List Bool := [false, false, false, true, true, true, true, true, true, true, true, true, true, true, false, true, false, false, false, false]
def imT : List Bool := [false, true, false, false, false, false, false, false, false, false, false, false, false, false, true, true, true, true, true, true]
def nameT : List ByteArray := [⟨⟨[110, 111, 112]⟩⟩, ⟨⟨[108, 105]⟩⟩, ⟨⟨[109, 111, 118]⟩⟩, ⟨⟨[97, 100, 100]⟩⟩, ⟨⟨[115, 117, 98]⟩⟩, ⟨⟨[97, 110, 100]⟩⟩, ⟨⟨[111, 114]⟩⟩, ⟨⟨[120, 111, 114]⟩⟩, ⟨⟨[115, 104, 108]⟩⟩, ⟨⟨[115, 104, 114]⟩⟩, ⟨⟨[109, 117, 108]⟩⟩, ⟨⟨[100, 105, 118]⟩⟩, ⟨⟨[108, 116, 117]⟩⟩, ⟨⟨[101, 113]⟩⟩, ⟨⟨[108, 100]⟩⟩, ⟨⟨[115, 116]⟩⟩, ⟨⟨[98, 101, 113, 122]⟩⟩, ⟨⟨[98, 110, 101, 122]⟩⟩, ⟨⟨[106, 109, 112]⟩⟩, ⟨⟨[101, 120, 105, 116]⟩⟩]
def fieldsV (op : Int) : Int := bif inT op then fieldT.getD op.toNat 0 else -1
def rdB (op : Int) : Bool := bif inT op then rdT.getD op.toNat false else false
def raB (op : Int) : Bool := bif inT op then raT.getD op.toNat false else false
def rbB (op : Int) : Bool := bif inT op then rbT.getD op.toNat false else false
def imB (op : Int) : Bool := bif inT op then imT.getD op.toNat false else false
def nameV (op : Int) : ByteArray := bif inT op then nameT.getD op.toNat ⟨⟨[]⟩⟩ else ⟨⟨[]⟩⟩
def pick0 (b : Bool) (x : Int) : Int := bif b then x else 0
def regV (n : Int) : Bool := decide (0 ≤ n) && decide (n < 16)
def okB (b : Bool) (r : Int) : Bool := regV r && (b || r == 0)
def rightV (op rd ra rb im : Int) : Bool := inT op && (okB (rdB op) rd && (okB (raB op) ra && (okB (rbB op) rb && (imB op || im == 0))))
theorem inT_lo {op : Int} (h : op < 0) : inT op = false := by simp [inT]; omega
theorem inT_hi {op : Int} (h : 20 ≤ op) : inT op = false := by simp [inT]; omega
theorem inT_of {op : Int} (h : inT op = true) : op = 0 ∨ op = 1 ∨ op = 2 ∨ op = 3 ∨ op = 4 ∨ op = 5 ∨ op = 6 ∨ op = 7 ∨ op = 8 ∨ op = 9 ∨ op = 10 ∨ op = 11 ∨ op = 12 ∨ op = 13 ∨ op = 14 ∨ op = 15 ∨ op = 16 ∨ op = 17 ∨ op = 18 ∨ op = 19 := by simp [inT] at h; omega
theorem acall_fst {P : Program} {T : Tab} {k : Nat} {f : FuncId} {args : Array Value} {H : Heap} {v : Value} (h : (evCall P T k f args H).map Prod.fst = some v) : ACall P T f args H fun r _ => r = v := by
  unfold ACall
  cases he : evCall P T k f args H with
  | none => rw [he] at h; cases h
  | some p => obtain ⟨u, H'⟩ := p; rw [he] at h; cases h; exact ⟨k, _, H', he, rfl⟩
noncomputable def T0 : Tab := tabOf Tryd.prog
theorem progOk0 [Bs] : ProgOk Tryd.prog T0 := progOk_of (by kernel_rfl) (by kernel_rfl)
def inB (n lo hi : Int) : Bool := decide (-9223372036854775808 ≤ n) && decide (n ≤ 9223372036854775807) && decide (0 ≤ lo) && decide (lo ≤ hi) && decide (hi ≤ 1099511627776)
theorem quiet_eq {w w' : World} {e : Ending} {v : Value} (h : e = .returned v ∧ w = w') : e = .returned v ∧ Quiet w w' := ⟨h.1, by rw [← h.2]; exact Quiet.refl _⟩
theorem ret_one {k : IntKind} {a b : Int} (h : a = b) : Ending.returned (.int k a) = .returned (.int k b) := by rw [h]
theorem tmod_emod (n m : Int) (hm : 0 < m) : n.tmod m = if 0 ≤ n then n % m else if n % m = 0 then 0 else n % m - m := by
  split
  · rename_i h; exact Int.tmod_eq_emod_of_nonneg h
  · rename_i h
    have h1 : n.tmod m = - ((-n) % m) := by
      have := Int.neg_tmod (-n) m
      rw [Int.neg_neg] at this
      rw [this, Int.tmod_eq_emod_of_nonneg (by omega)]
    have h2 : (-n) % m = if n % m = 0 then 0 else m - n % m := by
      have hd := Int.mul_ediv_add_emod n m
      have hp := Int.emod_nonneg n (by omega : m ≠ 0)
      have hq := Int.emod_lt_of_pos n hm
      split
      · rename_i h0
        have : m ∣ n := Int.dvd_of_emod_eq_zero h0
        exact Int.emod_eq_zero_of_dvd (Int.dvd_neg.2 this)
      · rename_i h0
        have e : -n = (m - n % m) + m * (-(n / m) - 1) := by
          rw [Int.mul_sub, Int.mul_neg, Int.mul_one]; omega
        rw [e, Int.add_mul_emod_self_left]
        exact Int.emod_eq_of_lt (by omega) (by omega)
    rw [h1, h2]; split <;> omega
set_option maxHeartbeats 400000 in
theorem within_any (n lo hi : Int) (w : World) (h0 : -9223372036854775808 ≤ n) (h1 : n ≤ 9223372036854775807) (h2 : 0 ≤ lo) (h3 : lo ≤ hi) (h4 : hi ≤ 1099511627776) :
    Calls Tryd.prog 14 #[.int .i64 n, .int .i64 lo, .int .i64 hi] w fun e w' => e = .returned (.int .i64 (lo + n % (hi - lo + 1))) ∧ w = w' := by
  have ht := tmod_emod n (hi - lo + 1) (by omega)
  have hp := Int.emod_nonneg n (by omega : hi - lo + 1 ≠ 0)
  have hq := Int.emod_lt_of_pos n (by omega : 0 < hi - lo + 1)
  generalize n % (hi - lo + 1) = r at *
  have b1 : -(hi - lo + 1) < n.tmod (hi - lo + 1) := by rw [ht]; split <;> (try split) <;> omega
  have b2 : n.tmod (hi - lo + 1) < hi - lo + 1 := by rw [ht]; split <;> (try split) <;> omega
  have Ht := Lib.hid ht
  clear ht
  go_enter Tryd.func14, Tryd.ntmps14
  go_wp2
  all_goals
    go_ret
    refine ⟨ret_one ?_, rfl⟩
    have := Ht.out
    revert this
    split <;> (try split) <;> intro this <;> omega

def sp14 : List Value → Option Value
  | [.int .i64 n, .int .i64 lo, .int .i64 hi] => bif inB n lo hi then some (.int .i64 (lo + n % (hi - lo + 1))) else none
  | _ => none
noncomputable def T1 : Tab := { T0 with orc := addOrc T0.orc 14 sp14 }
theorem progOk1 [Bs] : ProgOk Tryd.prog T1 := progOk0.add 14 sp14 fun args v h => by
  unfold sp14 at h
  split at h
  · rename_i n lo hi; cases hb : (inB n lo hi)
    · rw [hb] at h; cases h
    · rw [hb] at h; cases h
      unfold inB at hb
      simp only [Bool.and_eq_true, decide_eq_true_eq] at hb
      obtain ⟨⟨⟨⟨h1, h2⟩, h3⟩, h4⟩, h5⟩ := hb
      exact ⟨rfl, rfl, fun w _ => (within_any n lo hi w h1 h2 h3 h4 h5).mono fun _ _ => quiet_eq⟩
  · cases h
theorem orc14 (n lo hi : Int) (h : inB n lo hi = true) : sp14 [.int .i64 n, .int .i64 lo, .int .i64 hi] = some (.int .i64 (lo + n % (hi - lo + 1))) := by
  simp only [sp14, h, cond_true]
noncomputable def f15b : Code := Tryd.f15.body.getD .skip
noncomputable def f15ba : Code := cl f15b
noncomputable def f15bao : Array Oper := opsOf f15ba
noncomputable def f15bc : Code := cr f15b
noncomputable def f15bca : Code := cl f15bc
noncomputable def f15bcaa : Code := cl f15bca
noncomputable def f15bcaaa : Code := cl f15bcaa
noncomputable def f15bcaaao : Array Oper := opsOf f15bcaaa
noncomputable def f15bcaac : Code := cr f15bcaa
noncomputable def f15bcaaca : Code := cl f15bcaac
noncomputable def f15bcaacaa : Code := cl f15bcaaca
noncomputable def f15bcaacaao : Array Oper := opsOf f15bcaacaa
noncomputable def f15bcaacc : Code := cr f15bcaac
noncomputable def f15bcaacca : Code := cl f15bcaacc
noncomputable def f15bcaaccao : Array Oper := opsOf f15bcaacca
noncomputable def f15bcaaccc : Code := cr f15bcaacc
noncomputable def f15bcaaccca : Code := cl f15bcaaccc
noncomputable def f15bcaacccaa : Code := cl f15bcaaccca
noncomputable def f15bcaacccaao : Array Oper := opsOf f15bcaacccaa
noncomputable def f15bcaacccc : Code := cr f15bcaaccc
noncomputable def f15bcaacccca : Code := cl f15bcaacccc
noncomputable def f15bcaaccccao : Array Oper := opsOf f15bcaacccca
noncomputable def f15bcaaccccc : Code := cr f15bcaacccc
noncomputable def f15bcaaccccca : Code := cl f15bcaaccccc
noncomputable def f15bcaacccccaa : Code := cl f15bcaaccccca
noncomputable def f15bcaacccccaao : Array Oper := opsOf f15bcaacccccaa
noncomputable def f15bcaacccccc : Code := cr f15bcaaccccc
noncomputable def f15bcaacccccca : Code := cl f15bcaacccccc
noncomputable def f15bcaaccccccao : Array Oper := opsOf f15bcaacccccca
noncomputable def f15bcaaccccccc : Code := cr f15bcaacccccc
noncomputable def f15bcaaccccccca : Code := cl f15bcaaccccccc
noncomputable def f15bcaacccccccaa : Code := cl f15bcaaccccccca
noncomputable def f15bcaacccccccaao : Array Oper := opsOf f15bcaacccccccaa
noncomputable def f15bcaacccccccc : Code := cr f15bcaaccccccc
noncomputable def f15bcaacccccccca : Code := cl f15bcaacccccccc
noncomputable def f15bcaaccccccccao : Array Oper := opsOf f15bcaacccccccca
noncomputable def f15bcaaccccccccc : Code := cr f15bcaacccccccc
noncomputable def f15bcaaccccccccca : Code := cl f15bcaaccccccccc
noncomputable def f15bcaacccccccccaa : Code := cl f15bcaaccccccccca
noncomputable def f15bcaacccccccccaao : Array Oper := opsOf f15bcaacccccccccaa
noncomputable def f15bcaacccccccccc : Code := cr f15bcaaccccccccc
noncomputable def f15bcaacccccccccca : Code := cl f15bcaacccccccccc
noncomputable def f15bcaaccccccccccao : Array Oper := opsOf f15bcaacccccccccca
noncomputable def f15bcaaccccccccccc : Code := cr f15bcaacccccccccc
noncomputable def f15bcaaccccccccccca : Code := cl f15bcaaccccccccccc
noncomputable def f15bcaacccccccccccaa : Code := cl f15bcaaccccccccccca
noncomputable def f15bcaacccccccccccaao : Array Oper := opsOf f15bcaacccccccccccaa
noncomputable def f15bcaacccccccccccc : Code := cr f15bcaaccccccccccc
noncomputable def f15bcaacccccccccccca : Code := cl f15bcaacccccccccccc
noncomputable def f15bcaaccccccccccccao : Array Oper := opsOf f15bcaacccccccccccca
noncomputable def f15bcaaccccccccccccc : Code := cr f15bcaacccccccccccc
noncomputable def f15bcaaccccccccccccca : Code := cl f15bcaaccccccccccccc
noncomputable def f15bcaacccccccccccccaa : Code := cl f15bcaaccccccccccccca
noncomputable def f15bcaacccccccccccccaao : Array Oper := opsOf f15bcaacccccccccccccaa
noncomputable def f15bcaacccccccccccccc : Code := cr f15bcaaccccccccccccc
noncomputable def f15bcaacccccccccccccca : Code := cl f15bcaacccccccccccccc
noncomputable def f15bcaaccccccccccccccao : Array Oper := opsOf f15bcaacccccccccccccca
noncomputable def f15bcaaccccccccccccccc : Code := cr f15bcaacccccccccccccc
noncomputable def f15bcaaccccccccccccccca : Code := cl f15bcaaccccccccccccccc
noncomputable def f15bcaacccccccccccccccaa : Code := cl f15bcaaccccccccccccccca
noncomputable def f15bcaacccccccccccccccaao : Array Oper := opsOf f15bcaacccccccccccccccaa
noncomputable def f15bcc : Code := cr f15bc
noncomputable def f15bcca : Code := cl f15bcc
noncomputable def f15bccao : Array Oper := opsOf f15bcca
theorem f15ba_eq : f15ba = .region 0 f15bao false := by kernel_rfl
theorem f15bcaaa_eq : f15bcaaa = .region 1 f15bcaaao false := by kernel_rfl
theorem f15bcaacaa_eq : f15bcaacaa = .region 2 f15bcaacaao false := by kernel_rfl
theorem f15bcaaca_eq : f15bcaaca = .seq f15bcaacaa .ret := by kernel_rfl
theorem f15bcaacca_eq : f15bcaacca = .region 3 f15bcaaccao false := by kernel_rfl
theorem f15bcaacccaa_eq : f15bcaacccaa = .region 4 f15bcaacccaao false := by kernel_rfl
theorem f15bcaaccca_eq : f15bcaaccca = .seq f15bcaacccaa .ret := by kernel_rfl
theorem f15bcaacccca_eq : f15bcaacccca = .region 5 f15bcaaccccao false := by kernel_rfl
theorem f15bcaacccccaa_eq : f15bcaacccccaa = .region 6 f15bcaacccccaao false := by kernel_rfl
theorem f15bcaaccccca_eq : f15bcaaccccca = .seq f15bcaacccccaa .ret := by kernel_rfl
theorem f15bcaacccccca_eq : f15bcaacccccca = .region 7 f15bcaaccccccao false := by kernel_rfl
theorem f15bcaacccccccaa_eq : f15bcaacccccccaa = .region 8 f15bcaacccccccaao false := by kernel_rfl
theorem f15bcaaccccccca_eq : f15bcaaccccccca = .seq f15bcaacccccccaa .ret := by kernel_rfl
theorem f15bcaacccccccca_eq : f15bcaacccccccca = .region 9 f15bcaaccccccccao false := by kernel_rfl
theorem f15bcaacccccccccaa_eq : f15bcaacccccccccaa = .region 10 f15bcaacccccccccaao false := by kernel_rfl
theorem f15bcaaccccccccca_eq : f15bcaaccccccccca = .seq f15bcaacccccccccaa .ret := by kernel_rfl
theorem f15bcaacccccccccca_eq : f15bcaacccccccccca = .region 11 f15bcaaccccccccccao false := by kernel_rfl
theorem f15bcaacccccccccccaa_eq : f15bcaacccccccccccaa = .region 12 f15bcaacccccccccccaao false := by kernel_rfl
theorem f15bcaaccccccccccca_eq : f15bcaaccccccccccca = .seq f15bcaacccccccccccaa .ret := by kernel_rfl
theorem f15bcaacccccccccccca_eq : f15bcaacccccccccccca = .region 13 f15bcaaccccccccccccao false := by kernel_rfl
theorem f15bcaacccccccccccccaa_eq : f15bcaacccccccccccccaa = .region 14 f15bcaacccccccccccccaao false := by kernel_rfl
theorem f15bcaaccccccccccccca_eq : f15bcaaccccccccccccca = .seq f15bcaacccccccccccccaa .ret := by kernel_rfl
theorem f15bcaacccccccccccccca_eq : f15bcaacccccccccccccca = .region 15 f15bcaaccccccccccccccao false := by kernel_rfl
theorem f15bcaacccccccccccccccaa_eq : f15bcaacccccccccccccccaa = .region 16 f15bcaacccccccccccccccaao false := by kernel_rfl
theorem f15bcaaccccccccccccccca_eq : f15bcaaccccccccccccccca = .seq f15bcaacccccccccccccccaa .ret := by kernel_rfl
theorem f15bcaaccccccccccccccc_eq : f15bcaaccccccccccccccc = .cond (cop f15bcaaccccccccccccccc) f15bcaaccccccccccccccca .skip := by kernel_rfl
theorem f15bcaacccccccccccccc_eq : f15bcaacccccccccccccc = .seq f15bcaacccccccccccccca f15bcaaccccccccccccccc := by kernel_rfl
theorem f15bcaaccccccccccccc_eq : f15bcaaccccccccccccc = .cond (cop f15bcaaccccccccccccc) f15bcaaccccccccccccca f15bcaacccccccccccccc := by kernel_rfl
theorem f15bcaacccccccccccc_eq : f15bcaacccccccccccc = .seq f15bcaacccccccccccca f15bcaaccccccccccccc := by kernel_rfl
theorem f15bcaaccccccccccc_eq : f15bcaaccccccccccc = .cond (cop f15bcaaccccccccccc) f15bcaaccccccccccca f15bcaacccccccccccc := by kernel_rfl
theorem f15bcaacccccccccc_eq : f15bcaacccccccccc = .seq f15bcaacccccccccca f15bcaaccccccccccc := by kernel_rfl
theorem f15bcaaccccccccc_eq : f15bcaaccccccccc = .cond (cop f15bcaaccccccccc) f15bcaaccccccccca f15bcaacccccccccc := by kernel_rfl
theorem f15bcaacccccccc_eq : f15bcaacccccccc = .seq f15bcaacccccccca f15bcaaccccccccc := by kernel_rfl
theorem f15bcaaccccccc_eq : f15bcaaccccccc = .cond (cop f15bcaaccccccc) f15bcaaccccccca f15bcaacccccccc := by kernel_rfl
theorem f15bcaacccccc_eq : f15bcaacccccc = .seq f15bcaacccccca f15bcaaccccccc := by kernel_rfl
theorem f15bcaaccccc_eq : f15bcaaccccc = .cond (cop f15bcaaccccc) f15bcaaccccca f15bcaacccccc := by kernel_rfl
theorem f15bcaacccc_eq : f15bcaacccc = .seq f15bcaacccca f15bcaaccccc := by kernel_rfl
theorem f15bcaaccc_eq : f15bcaaccc = .cond (cop f15bcaaccc) f15bcaaccca f15bcaacccc := by kernel_rfl
theorem f15bcaacc_eq : f15bcaacc = .seq f15bcaacca f15bcaaccc := by kernel_rfl
theorem f15bcaac_eq : f15bcaac = .cond (cop f15bcaac) f15bcaaca f15bcaacc := by kernel_rfl
theorem f15bcaa_eq : f15bcaa = .seq f15bcaaa f15bcaac := by kernel_rfl
theorem f15bca_eq : f15bca = .block 0 f15bcaa := by kernel_rfl
theorem f15bcca_eq : f15bcca = .region 17 f15bccao false := by kernel_rfl
theorem f15bcc_eq : f15bcc = .seq f15bcca .ret := by kernel_rfl
theorem f15bc_eq : f15bc = .seq f15bca f15bcc := by kernel_rfl
theorem f15b_eq : f15b = .seq f15ba f15bc := by kernel_rfl
theorem f15_body : Tryd.f15.body = some f15b := by kernel_rfl
theorem f15_fn : T1.fn 15 = some Tryd.f15 := by kernel_rfl
theorem f15_lo {op : Int} (h : op < 0) : ACall Tryd.prog T1 15 #[.int .i64 op] ⟨.lf, 0⟩ fun r _ => r = .int .i64 (fieldsV op) := by
  refine acall_of' 39 (initTm 0 #[.int .i64 op]) rfl f15_fn f15_body rfl rfl ?_
  rw [f15b_eq]
  refine aw_then ?_
  rw [f15ba_eq]
  refine aw_reg ?_
  refine aops_go 1 60 (by kernel_rfl) ?_
  refine aops_end (by kernel_rfl) (then_normal ?_)
  rw [f15bc_eq]
  refine aw_then ?_
  rw [f15bca_eq]
  refine aw_block ?_
  rw [f15bcaa_eq]
  refine aw_then ?_
  rw [f15bcaaa_eq]
  refine aw_reg ?_
  refine aops_go 3 60 (by kernel_rfl) ?_
  refine aops_end (by kernel_rfl) (then_normal ?_)
  rw [f15bcaac_eq]
  refine aw_cond (t := false) (see_bool (by kernel_rfl) ((by simp; omega) : (((op : Int) == 0)) = false)) ?_
  rw [f15bcaacc_eq]
  refine aw_then ?_
  rw [f15bcaacca_eq]
  refine aw_reg ?_
  refine aops_go 3 60 (by kernel_rfl) ?_
  refine aops_end (by kernel_rfl) (then_normal ?_)
  rw [f15bcaaccc_eq]
  refine aw_cond (t := false) (see_bool (by kernel_rfl) ((by simp; omega) : (((op : Int) == 1)) = false)) ?_
  rw [f15bcaacccc_eq]
  refine aw_then ?_
  rw [f15bcaacccca_eq]
  refine aw_reg ?_
  refine aops_go 3 60 (by kernel_rfl) ?_
  refine aops_end (by kernel_rfl) (then_normal ?_)
  rw [f15bcaaccccc_eq]
  refine aw_cond (t := false) (see_bool (by kernel_rfl) ((by simp; omega) : (((op : Int) == 2)) = false)) ?_
  rw [f15bcaacccccc_eq]
  refine aw_then ?_
  rw [f15bcaacccccca_eq]
  refine aw_reg ?_
  refine aops_go 3 60 (by kernel_rfl) ?_
  refine aops_see 15 (.bool false) (see_bool (by kernel_rfl) ((by simp; omega) : ((decide ((op : Int) ≥ 3))) = false)) ?_
  refine aops_go 4 60 (by kernel_rfl) ?_
  refine aops_end (by kernel_rfl) (then_normal ?_)
  rw [f15bcaaccccccc_eq]
  refine aw_cond (t := false) (by kernel_rfl) ?_
  rw [f15bcaacccccccc_eq]
  refine aw_then ?_
  rw [f15bcaacccccccca_eq]
  refine aw_reg ?_
  refine aops_go 3 60 (by kernel_rfl) ?_
  refine aops_end (by kernel_rfl) (then_normal ?_)
  rw [f15bcaaccccccccc_eq]
  refine aw_cond (t := false) (see_bool (by kernel_rfl) ((by simp; omega) : (((op : Int) == 14)) = false)) ?_
  rw [f15bcaacccccccccc_eq]
  refine aw_then ?_
  rw [f15bcaacccccccccca_eq]
  refine aw_reg ?_
  refine aops_go 3 60 (by kernel_rfl) ?_
  refine aops_end (by kernel_rfl) (then_normal ?_)
  rw [f15bcaaccccccccccc_eq]
  refine aw_cond (t := false) (see_bool (by kernel_rfl) ((by simp; omega) : (((op : Int) == 15)) = false)) ?_
  rw [f15bcaacccccccccccc_eq]
  refine aw_then ?_
  rw [f15bcaacccccccccccca_eq]
  refine aw_reg ?_
  refine aops_go 3 60 (by kernel_rfl) ?_
  refine aops_see 28 (.bool false) (see_bool (by kernel_rfl) ((by simp; omega) : (((op : Int) == 16)) = false)) ?_
  refine aops_go 4 60 (by kernel_rfl) ?_
  refine aops_end (by kernel_rfl) (then_normal ?_)
  rw [f15bcaaccccccccccccc_eq]
  refine aw_cond (t := false) (see_bool (by kernel_rfl) ((by simp; omega) : (((op : Int) == 17)) = false)) ?_
  rw [f15bcaacccccccccccccc_eq]
  refine aw_then ?_
  rw [f15bcaacccccccccccccca_eq]
  refine aw_reg ?_
  refine aops_go 3 60 (by kernel_rfl) ?_
  refine aops_see 35 (.bool false) (see_bool (by kernel_rfl) ((by simp; omega) : (((op : Int) == 18)) = false)) ?_
  refine aops_go 4 60 (by kernel_rfl) ?_
  refine aops_end (by kernel_rfl) (then_normal ?_)
  rw [f15bcaaccccccccccccccc_eq]
  refine aw_cond (t := false) (see_bool (by kernel_rfl) ((by simp; omega) : (((op : Int) == 19)) = false)) ?_
  refine aw_skip (blk_normal (then_normal ?_))
  rw [f15bcc_eq]
  refine aw_then ?_
  rw [f15bcca_eq]
  refine aw_reg ?_
  refine aops_go 1 60 (by kernel_rfl) ?_
  refine aops_end (by kernel_rfl) (then_normal ?_)
  refine aw_ret (bodyQ_ret ⟨.int .i64 (-1), (by kernel_rfl), ?_⟩)
  simp only [fieldsV, inT_lo h, cond_false]
theorem f15_hi {op : Int} (h : 20 ≤ op) : ACall Tryd.prog T1 15 #[.int .i64 op] ⟨.lf, 0⟩ fun r _ => r = .int .i64 (fieldsV op) := by
  refine acall_of' 39 (initTm 0 #[.int .i64 op]) rfl f15_fn f15_body rfl rfl ?_
  rw [f15b_eq]
  refine aw_then ?_
  rw [f15ba_eq]
  refine aw_reg ?_
  refine aops_go 1 60 (by kernel_rfl) ?_
  refine aops_end (by kernel_rfl) (then_normal ?_)
  rw [f15bc_eq]
  refine aw_then ?_
  rw [f15bca_eq]
  refine aw_block ?_
  rw [f15bcaa_eq]
  refine aw_then ?_
  rw [f15bcaaa_eq]
  refine aw_reg ?_
  refine aops_go 3 60 (by kernel_rfl) ?_
  refine aops_end (by kernel_rfl) (then_normal ?_)
  rw [f15bcaac_eq]
  refine aw_cond (t := false) (see_bool (by kernel_rfl) ((by simp; omega) : (((op : Int) == 0)) = false)) ?_
  rw [f15bcaacc_eq]
  refine aw_then ?_
  rw [f15bcaacca_eq]
  refine aw_reg ?_
  refine aops_go 3 60 (by kernel_rfl) ?_
  refine aops_end (by kernel_rfl) (then_normal ?_)
  rw [f15bcaaccc_eq]
  refine aw_cond (t := false) (see_bool (by kernel_rfl) ((by simp; omega) : (((op : Int) == 1)) = false)) ?_
  rw [f15bcaacccc_eq]
  refine aw_then ?_
  rw [f15bcaacccca_eq]
  refine aw_reg ?_
  refine aops_go 3 60 (by kernel_rfl) ?_
  refine aops_end (by kernel_rfl) (then_normal ?_)
  rw [f15bcaaccccc_eq]
  refine aw_cond (t := false) (see_bool (by kernel_rfl) ((by simp; omega) : (((op : Int) == 2)) = false)) ?_
  rw [f15bcaacccccc_eq]
  refine aw_then ?_
  rw [f15bcaacccccca_eq]
  refine aw_reg ?_
  refine aops_go 3 60 (by kernel_rfl) ?_
  refine aops_see 15 (.bool true) (see_bool (by kernel_rfl) ((by simp; omega) : ((decide ((op : Int) ≥ 3))) = true)) ?_
  refine aops_go 4 60 (by kernel_rfl) ?_
  refine aops_end (by kernel_rfl) (then_normal ?_)
  rw [f15bcaaccccccc_eq]
  refine aw_cond (t := false) (see_bool (by kernel_rfl) ((by simp; omega) : ((decide ((op : Int) ≤ 13))) = false)) ?_
  rw [f15bcaacccccccc_eq]
  refine aw_then ?_
  rw [f15bcaacccccccca_eq]
  refine aw_reg ?_
  refine aops_go 3 60 (by kernel_rfl) ?_
  refine aops_end (by kernel_rfl) (then_normal ?_)
  rw [f15bcaaccccccccc_eq]
  refine aw_cond (t := false) (see_bool (by kernel_rfl) ((by simp; omega) : (((op : Int) == 14)) = false)) ?_
  rw [f15bcaacccccccccc_eq]
  refine aw_then ?_
  rw [f15bcaacccccccccca_eq]
  refine aw_reg ?_
  refine aops_go 3 60 (by kernel_rfl) ?_
  refine aops_end (by kernel_rfl) (then_normal ?_)
  rw [f15bcaaccccccccccc_eq]
  refine aw_cond (t := false) (see_bool (by kernel_rfl) ((by simp; omega) : (((op : Int) == 15)) = false)) ?_
  rw [f15bcaacccccccccccc_eq]
  refine aw_then ?_
  rw [f15bcaacccccccccccca_eq]
  refine aw_reg ?_
  refine aops_go 3 60 (by kernel_rfl) ?_
  refine aops_see 28 (.bool false) (see_bool (by kernel_rfl) ((by simp; omega) : (((op : Int) == 16)) = false)) ?_
  refine aops_go 4 60 (by kernel_rfl) ?_
  refine aops_end (by kernel_rfl) (then_normal ?_)
  rw [f15bcaaccccccccccccc_eq]
  refine aw_cond (t := false) (see_bool (by kernel_rfl) ((by simp; omega) : (((op : Int) == 17)) = false)) ?_
  rw [f15bcaacccccccccccccc_eq]
  refine aw_then ?_
  rw [f15bcaacccccccccccccca_eq]
  refine aw_reg ?_
  refine aops_go 3 60 (by kernel_rfl) ?_
  refine aops_see 35 (.bool false) (see_bool (by kernel_rfl) ((by simp; omega) : (((op : Int) == 18)) = false)) ?_
  refine aops_go 4 60 (by kernel_rfl) ?_
  refine aops_end (by kernel_rfl) (then_normal ?_)
  rw [f15bcaaccccccccccccccc_eq]
  refine aw_cond (t := false) (see_bool (by kernel_rfl) ((by simp; omega) : (((op : Int) == 19)) = false)) ?_
  refine aw_skip (blk_normal (then_normal ?_))
  rw [f15bcc_eq]
  refine aw_then ?_
  rw [f15bcca_eq]
  refine aw_reg ?_
  refine aops_go 1 60 (by kernel_rfl) ?_
  refine aops_end (by kernel_rfl) (then_normal ?_)
  refine aw_ret (bodyQ_ret ⟨.int .i64 (-1), (by kernel_rfl), ?_⟩)
  simp only [fieldsV, inT_hi h, cond_false]
theorem f15_any (op : Int) : ACall Tryd.prog T1 15 #[.int .i64 op] ⟨.lf, 0⟩ fun r _ => r = .int .i64 (fieldsV op) := by
  by_cases h : op < 0
  · exact f15_lo h
  · by_cases h2 : 20 ≤ op
    · exact f15_hi (by omega)
    · exact acall_range (N := 20) (k := 300) (g := fun op => .int .i64 (fieldsV op)) (by kernel_rfl) (by omega) (by omega)
def sp15 : List Value → Option Value
  | [.int .i64 op] => some (.int .i64 (fieldsV op))
  | _ => none
noncomputable def T2 : Tab := { T1 with orc := addOrc T1.orc 15 sp15 }
theorem progOk2 [Bs] : ProgOk Tryd.prog T2 := progOk1.know 15 sp15 fun args v h => by
  unfold sp15 at h
  split at h
  · rename_i op; cases h; exact ⟨rfl, rfl, f15_any op⟩
  · cases h
noncomputable def f17b : Code := Tryd.f17.body.getD .skip
noncomputable def f17ba : Code := cl f17b
noncomputable def f17bao : Array Oper := opsOf f17ba
noncomputable def f17bc : Code := cr f17b
noncomputable def f17bca : Code := cl f17bc
noncomputable def f17bcaa : Code := cl f17bca
noncomputable def f17bcaao : Array Oper := opsOf f17bcaa
noncomputable def f17bcac : Code := cr f17bca
noncomputable def f17bcaca : Code := cl f17bcac
noncomputable def f17bcacaa : Code := cl f17bcaca
noncomputable def f17bcacaao : Array Oper := opsOf f17bcacaa
noncomputable def f17bcc : Code := cr f17bc
noncomputable def f17bcca : Code := cl f17bcc
noncomputable def f17bccao : Array Oper := opsOf f17bcca
theorem f17ba_eq : f17ba = .region 0 f17bao false := by kernel_rfl
theorem f17bcaa_eq : f17bcaa = .region 1 f17bcaao false := by kernel_rfl
theorem f17bcacaa_eq : f17bcacaa = .region 2 f17bcacaao false := by kernel_rfl
theorem f17bcaca_eq : f17bcaca = .seq f17bcacaa .ret := by kernel_rfl
theorem f17bcac_eq : f17bcac = .cond (cop f17bcac) f17bcaca .skip := by kernel_rfl
theorem f17bca_eq : f17bca = .seq f17bcaa f17bcac := by kernel_rfl
theorem f17bcca_eq : f17bcca = .region 3 f17bccao false := by kernel_rfl
theorem f17bcc_eq : f17bcc = .seq f17bcca .ret := by kernel_rfl
theorem f17bc_eq : f17bc = .seq f17bca f17bcc := by kernel_rfl
theorem f17b_eq : f17b = .seq f17ba f17bc := by kernel_rfl
theorem f17_body : Tryd.f17.body = some f17b := by kernel_rfl
theorem f17_fn : T2.fn 17 = some Tryd.f17 := by kernel_rfl
theorem f17_lo {op : Int} (h : op < 0) : ACall Tryd.prog T2 17 #[.int .i64 op] ⟨.lf, 0⟩ fun r _ => r = .string (nameV op) := by
  refine acall_of' 13 (initTm 0 #[.int .i64 op]) rfl f17_fn f17_body rfl rfl ?_
  rw [f17b_eq]
  refine aw_then ?_
  rw [f17ba_eq]
  refine aw_reg ?_
  refine aops_go 1 60 (by kernel_rfl) ?_
  refine aops_end (by kernel_rfl) (then_normal ?_)
  rw [f17bc_eq]
  refine aw_then ?_
  rw [f17bca_eq]
  refine aw_then ?_
  rw [f17bcaa_eq]
  refine aw_reg ?_
  refine aops_go 3 60 (by kernel_rfl) ?_
  refine aops_see 5 (.bool true) (see_bool (by kernel_rfl) ((by simp; omega) : ((decide ((op : Int) < 0))) = true)) ?_
  refine aops_go 3 60 (by kernel_rfl) ?_
  refine aops_end (by kernel_rfl) (then_normal ?_)
  rw [f17bcac_eq]
  refine aw_cond (t := true) (by kernel_rfl) ?_
  rw [f17bcaca_eq]
  refine aw_then ?_
  rw [f17bcacaa_eq]
  refine aw_reg ?_
  refine aops_go 1 60 (by kernel_rfl) ?_
  refine aops_end (by kernel_rfl) (then_normal ?_)
  refine aw_ret (then_ret (bodyQ_ret ⟨.string ⟨⟨[]⟩⟩, (by kernel_rfl), ?_⟩))
  simp only [nameV, inT_lo h, cond_false]
theorem f17_hi {op : Int} (h : 20 ≤ op) : ACall Tryd.prog T2 17 #[.int .i64 op] ⟨.lf, 0⟩ fun r _ => r = .string (nameV op) := by
  refine acall_of' 13 (initTm 0 #[.int .i64 op]) rfl f17_fn f17_body rfl rfl ?_
  rw [f17b_eq]
  refine aw_then ?_
  rw [f17ba_eq]
  refine aw_reg ?_
  refine aops_go 1 60 (by kernel_rfl) ?_
  refine aops_end (by kernel_rfl) (then_normal ?_)
  rw [f17bc_eq]
  refine aw_then ?_
  rw [f17bca_eq]
  refine aw_then ?_
  rw [f17bcaa_eq]
  refine aw_reg ?_
  refine aops_go 3 60 (by kernel_rfl) ?_
  refine aops_see 5 (.bool false) (see_bool (by kernel_rfl) ((by simp; omega) : ((decide ((op : Int) < 0))) = false)) ?_
  refine aops_go 3 60 (by kernel_rfl) ?_
  refine aops_end (by kernel_rfl) (then_normal ?_)
  rw [f17bcac_eq]
  refine aw_cond (t := true) (see_bool (by kernel_rfl) ((by simp; omega) : ((decide ((op : Int) > 19))) = true)) ?_
  rw [f17bcaca_eq]
  refine aw_then ?_
  rw [f17bcacaa_eq]
  refine aw_reg ?_
  refine aops_go 1 60 (by kernel_rfl) ?_
  refine aops_end (by kernel_rfl) (then_normal ?_)
  refine aw_ret (then_ret (bodyQ_ret ⟨.string ⟨⟨[]⟩⟩, (by kernel_rfl), ?_⟩))
  simp only [nameV, inT_hi h, cond_false]
theorem f17_any (op : Int) : ACall Tryd.prog T2 17 #[.int .i64 op] ⟨.lf, 0⟩ fun r _ => r = .string (nameV op) := by
  by_cases h : op < 0
  · exact f17_lo h
  · by_cases h2 : 20 ≤ op
    · exact f17_hi (by omega)
    · exact acall_range (N := 20) (k := 300) (g := fun op => .string (nameV op)) (by kernel_rfl) (by omega) (by omega)
def sp17 : List Value → Option Value
  | [.int .i64 op] => some (.string (nameV op))
  | _ => none
noncomputable def T3 : Tab := { T2 with orc := addOrc T2.orc 17 sp17 }
theorem progOk3 [Bs] : ProgOk Tryd.prog T3 := progOk2.know 17 sp17 fun args v h => by
  unfold sp17 at h
  split at h
  · rename_i op; cases h; exact ⟨rfl, rfl, f17_any op⟩
  · cases h
noncomputable def f27b : Code := Tryd.f27.body.getD .skip
noncomputable def f27ba : Code := cl f27b
noncomputable def f27bao : Array Oper := opsOf f27ba
noncomputable def f27bc : Code := cr f27b
noncomputable def f27bca : Code := cl f27bc
noncomputable def f27bcao : Array Oper := opsOf f27bca
theorem f27ba_eq : f27ba = .region 0 f27bao false := by kernel_rfl
theorem f27bca_eq : f27bca = .region 1 f27bcao false := by kernel_rfl
theorem f27bc_eq : f27bc = .seq f27bca .ret := by kernel_rfl
theorem f27b_eq : f27b = .seq f27ba f27bc := by kernel_rfl
theorem f27_body : Tryd.f27.body = some f27b := by kernel_rfl
theorem f27_fn : T3.fn 27 = some Tryd.f27 := by kernel_rfl
theorem f27_any (n : Int) : ACall Tryd.prog T3 27 #[.int .i64 n] ⟨.lf, 0⟩ fun r _ => r = .bool (regV n) := by
  refine acall_of' 9 (initTm 0 #[.int .i64 n]) rfl f27_fn f27_body rfl rfl ?_
  rw [f27b_eq]
  refine aw_then ?_
  rw [f27ba_eq]
  refine aw_reg ?_
  refine aops_go 1 60 (by kernel_rfl) ?_
  refine aops_end (by kernel_rfl) (then_normal ?_)
  rw [f27bc_eq]
  refine aw_then ?_
  rw [f27bca_eq]
  refine aw_reg ?_
  refine aops_go 3 60 (by kernel_rfl) ?_
  rcases Bool.eq_false_or_eq_true ((decide ((n : Int) ≥ 0))) with hc1 | hc1
  · skip
    refine aops_see 5 (.bool true) (see_bool (by kernel_rfl) hc1) ?_
    refine aops_go 4 60 (by kernel_rfl) ?_
    refine aops_end (by kernel_rfl) (then_normal ?_)
    refine aw_ret (bodyQ_ret ⟨.bool (decide ((n : Int) < 16)), (by kernel_rfl), ?_⟩)
    congr 1; simp only [regV]; revert hc1; simp; try omega
  · skip
    refine aops_see 5 (.bool false) (see_bool (by kernel_rfl) hc1) ?_
    refine aops_go 4 60 (by kernel_rfl) ?_
    refine aops_end (by kernel_rfl) (then_normal ?_)
    refine aw_ret (bodyQ_ret ⟨.bool false, (by kernel_rfl), ?_⟩)
    congr 1; simp only [regV]; revert hc1; simp; try omega
def sp27 : List Value → Option Value
  | [.int .i64 n] => some (.bool (regV n))
  | _ => none
noncomputable def T4 : Tab := { T3 with orc := addOrc T3.orc 27 sp27 }
theorem progOk4 [Bs] : ProgOk Tryd.prog T4 := progOk3.know 27 sp27 fun args v h => by
  unfold sp27 at h
  split at h
  · rename_i n; cases h; exact ⟨rfl, rfl, f27_any n⟩
  · cases h
theorem bits_eq (op : Int) : Ha.rdB op = rdB op ∧ Ha.raB op = raB op ∧ Ha.rbB op = rbB op ∧ Ha.imB op = imB op ∧ Ha.okB op = inT op := by
  cases h : inT op
  · have h2 : op < 0 ∨ 19 < op := by simp [inT] at h; omega
    simp only [rdB, raB, rbB, imB, h, cond_false]
    simp [Ha.rdB, Ha.raB, Ha.rbB, Ha.imB, Ha.okB]; omega
  · rcases inT_of h with rfl | rfl | rfl | rfl | rfl | rfl | rfl | rfl | rfl | rfl | rfl | rfl | rfl | rfl | rfl | rfl | rfl | rfl | rfl | rfl <;> decide
theorem sel_eq (b : Bool) (x : Int) : Ha.sel b x = pick0 b x := by cases b <;> rfl
def eqV (op rd ra rb im : Int) : Bool := (((op : Int) == op) && (((pick0 (rdB op) rd : Int) == rd) && (((pick0 (raB op) ra : Int) == ra) && (((pick0 (rbB op) rb : Int) == rb) && (((pick0 (imB op) im : Int) == im) && true)))))
theorem pick0_eq (b : Bool) (x : Int) : (pick0 b x == x) = (b || x == 0) := by
  cases b
  · show ((0 : Int) == x) = (false || x == 0)
    rw [Bool.false_or]; exact BEq.comm
  · simp [pick0]
theorem right_eq (op rd ra rb im : Int) : rightV op rd ra rb im = (inT op && eqV op rd ra rb im && regV rd && regV ra && regV rb) := by
  simp only [rightV, eqV, okB, pick0_eq, beq_self_eq_true, Bool.true_and, Bool.and_true]
  generalize regV rd = a; generalize regV ra = b; generalize regV rb = c
  generalize (rdB op || rd == 0) = d; generalize (raB op || ra == 0) = e; generalize (rbB op || rb == 0) = f; generalize (imB op || im == 0) = g
  cases inT op <;> cases a <;> cases b <;> cases c <;> cases d <;> cases e <;> cases f <;> cases g <;> rfl
theorem right_Ha (op rd ra rb im : Int) : Ha.rightB op rd ra rb im = rightV op rd ra rb im := by
  obtain ⟨h1, h2, h3, h4, h5⟩ := bits_eq op
  have hr : ∀ n, Ha.regB n = regV n := fun n => by simp [Ha.regB, regV]
  rw [right_eq]
  unfold Ha.rightB eqV
  simp only [h1, h2, h3, h4, h5, sel_eq, hr]
  have e : decide (pick0 (rdB op) rd = rd ∧ pick0 (raB op) ra = ra ∧ pick0 (rbB op) rb = rb ∧ pick0 (imB op) im = im) = (op == op && (pick0 (rdB op) rd == rd && (pick0 (raB op) ra == ra && (pick0 (rbB op) rb == rb && (pick0 (imB op) im == im && true))))) := by
    simp; rfl
  rw [e]
  simp only [Bool.and_assoc]
theorem f19_calls (op rd ra rb im : Int) (w : World) : Calls Tryd.prog 19 #[.agg #[.int .i64 op, .int .i64 rd, .int .i64 ra, .int .i64 rb, .int .u32 im]] w fun e w' => e = .returned (.bool (rightV op rd ra rb im)) ∧ Quiet w w' := by
  rw [← right_Ha]
  exact (Ha.right_any op rd ra rb im w).mono fun e w' h => ⟨h.1, Quiet.of_below h.2⟩
def sp19 : List Value → Option Value
  | [.agg a] => match a.toList with
    | [.int .i64 op, .int .i64 rd, .int .i64 ra, .int .i64 rb, .int .u32 im] => some (.bool (rightV op rd ra rb im))
    | _ => none
  | _ => none
noncomputable def T6 : Tab := { T4 with orc := addOrc T4.orc 19 sp19 }
theorem progOk6 [Bs] : ProgOk Tryd.prog T6 := progOk4.add 19 sp19 fun args v h => by
  unfold sp19 at h
  split at h
  · rename_i a
    split at h
    · rename_i op rd ra rb im e
      cases h
      have : a = #[.int .i64 op, .int .i64 rd, .int .i64 ra, .int .i64 rb, .int .u32 im] := Array.ext' e
      subst this
      exact ⟨rfl, rfl, fun w _ => f19_calls op rd ra rb im w⟩
    · cases h
  · cases h
end Hc
end Go.Proofs.YtndjckfnggnddaaDoor
