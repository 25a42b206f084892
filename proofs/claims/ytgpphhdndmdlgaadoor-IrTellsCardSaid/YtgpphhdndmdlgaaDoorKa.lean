/- Chapter 19: the base. -/
import Derived.Test.YtgpphhdndmdlgaaDoorRows
import Derived.Test.YtgpphhdndmdlgaaDoorEve
import Derived.WalkKit
import Derived.Lib.Hide
import Derived.RegionTactic
namespace Go.Proofs.YtgpphhdndmdlgaaDoor
open Go Go.Ev Go.RowKit
set_option linter.unusedVariables false
set_option linter.unusedSimpArgs false
set_option maxRecDepth 100000
namespace Ls
theorem ret_one {k : IntKind} {a b : Int} (h : a = b) : Ending.returned (.int k a) = .returned (.int k b) := by rw [h]
theorem tmod_emod (n m : Int) (hm : 0 < m) : n.tmod m = if 0 ≤ n then n % m else if n % m = 0 then 0 else n % m - m := by
 split
 ·rename_i h; exact Int.tmod_eq_emod_of_nonneg h
 ·rename_i h
  have h1 : n.tmod m = - ((-n) % m) := by
   have := Int.neg_tmod (-n) m
   rw [Int.neg_neg] at this
   rw [this, Int.tmod_eq_emod_of_nonneg (by omega)]
  have h2 : (-n) % m = if n % m = 0 then 0 else m - n % m := by
   have hd := Int.mul_ediv_add_emod n m
   have hp := Int.emod_nonneg n (by omega : m ≠ 0)
   have hq := Int.emod_lt_of_pos n hm
   split
   ·rename_i h0
    have : m ∣ n := Int.dvd_of_emod_eq_zero h0
    exact Int.emod_eq_zero_of_dvd (Int.dvd_neg.2 this)
   ·rename_i h0
    have e : -n = (m - n % m) + m * (-(n / m) - 1) := by
     rw [Int.mul_sub, Int.mul_neg, Int.mul_one]; omega
    rw [e, Int.add_mul_emod_self_left]
    exact Int.emod_eq_of_lt (by omega) (by omega)
  rw [h1, h2]; split <;> omega
set_option maxHeartbeats 400000 in
theorem within_any (n lo hi : Int) (w : World) (h0 : -9223372036854775808 ≤ n) (h1 : n ≤ 9223372036854775807) (h2 : -1099511627776 ≤ lo) (h3 : lo ≤ hi) (h4 : hi ≤ 1099511627776) :
    Calls Tryd.prog 10 #[.int .i64 n, .int .i64 lo, .int .i64 hi] w fun e w' => e = .returned (.int .i64 (lo + n % (hi - lo + 1))) ∧ w = w' := by
 have ht := tmod_emod n (hi - lo + 1) (by omega)
 have hp := Int.emod_nonneg n (by omega : hi - lo + 1 ≠ 0)
 have hq := Int.emod_lt_of_pos n (by omega : 0 < hi - lo + 1)
 generalize n % (hi - lo + 1) = r at *
 have b1 : -(hi - lo + 1) < n.tmod (hi - lo + 1) := by rw [ht]; split <;> (try split) <;> omega
 have b2 : n.tmod (hi - lo + 1) < hi - lo + 1 := by rw [ht]; split <;> (try split) <;> omega
 have Ht := Lib.hid ht
 clear ht
 go_enter Tryd.func10, Tryd.ntmps10
 go_wp2
 all_goals
  go_ret
  refine ⟨ret_one ?_, rfl⟩
  have := Ht.out
  revert this
  split <;> (try split) <;> intro this <;> omega
def i64B (n : Int) : Bool := decide (-9223372036854775808 ≤ n) && decide (n ≤ 9223372036854775807)
def u32B (n : Int) : Bool := decide (0 ≤ n) && decide (n < 4294967296)
theorem u32B_iff {n : Int} : u32B n = true ↔ 0 ≤ n ∧ n < 4294967296 := by simp [u32B]
noncomputable def T0 : Tab := tabOf Tryd.prog
theorem ok_T0 [Bs] : ProgOk Tryd.prog T0 := progOk_of (by kernel_rfl) (by kernel_rfl)
instance : OrcDat T0 := orcDat_none fun _ _ => rfl
def inB (n lo hi : Int) : Bool := decide (-9223372036854775808 ≤ n) && decide (n ≤ 9223372036854775807) && decide (-1099511627776 ≤ lo) && decide (lo ≤ hi) && decide (hi ≤ 1099511627776)
theorem inB_of {n lo hi : Int} (h0 : -9223372036854775808 ≤ n ∧ n ≤ 9223372036854775807) (h2 : -1099511627776 ≤ lo) (h3 : lo ≤ hi) (h4 : hi ≤ 1099511627776) : inB n lo hi = true := by simp [inB]; omega
theorem quiet_eq {w w' : World} {e : Ending} {v : Value} (h : e = .returned v ∧ w = w') : e = .returned v ∧ Quiet w w' := ⟨h.1, by rw [← h.2]; exact Quiet.refl _⟩
def sp10 : List Value → Option Value
 | [.int .i64 n, .int .i64 lo, .int .i64 hi] => bif inB n lo hi then some (.int .i64 (lo + n % (hi - lo + 1))) else none
 | _ => none
noncomputable def T1 : Tab := { T0 with orc := addOrc T0.orc 10 sp10 }
theorem ok_T1 [Bs] : ProgOk Tryd.prog T1 := ok_T0.add 10 sp10 fun args v h => by
 unfold sp10 at h
 split at h
 ·rename_i n lo hi
  cases hb : (inB n lo hi)
  ·rw [hb] at h; cases h
  ·rw [hb] at h; cases h
   unfold inB at hb; simp only [Bool.and_eq_true, decide_eq_true_eq] at hb; obtain ⟨⟨⟨⟨h1, h2⟩, h3⟩, h4⟩, h5⟩ := hb
   exact ⟨rfl, rfl, fun w _ => (within_any n lo hi w h1 h2 h3 h4 h5).mono fun _ _ => quiet_eq⟩
 ·cases h
instance : OrcDat T1 := orcDat_add inferInstance 10 sp10 fun l v h => by
 unfold sp10 at h
 split at h
 ·rename_i n lo hi; cases hb : (inB n lo hi) <;> rw [hb] at h <;> cases h
  exact ⟨rfl, rfl⟩
 ·cases h
theorem orc10 (n : Int) (lo : Int) (hi : Int) (h : inB n lo hi = true) : sp10 [.int .i64 n, .int .i64 lo, .int .i64 hi] = some (.int .i64 (lo + n % (hi - lo + 1))) := by
 simp only [sp10, h, cond_true]
end Ls
end Go.Proofs.YtgpphhdndmdlgaaDoor
