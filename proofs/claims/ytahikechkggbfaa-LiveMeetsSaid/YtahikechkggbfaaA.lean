/- Plain helps; the walks of value, Within, Meet, at, depth. -/
import Derived.Test.YtahikechkggbfaaRows
import Derived.WalkKit
import Derived.Lib.Hide
import Derived.RegionTactic
import Derived.ChangeAlike
import Derived.BigRegion
import Derived.LoopTactic
import Derived.Deep.DeepMust
import Derived.Deep.AppendLies
import Derived.Deep.QuietTactic
import Derived.BigQuiet
namespace Go.Proofs.Ytahikechkggbfaa
open Go.RowKit
set_option linter.unusedVariables false
set_option linter.unusedSimpArgs false
theorem bcell {W w1 : World} (hb : Below W.heap.size W w1) : (∀ b o, b < W.heap.size → w1.cell? ⟨b, o, none⟩ = W.cell? ⟨b, o, none⟩) ∧ (∀ b o, b < W.heap.size → w1.frozen? ⟨b, o, none⟩ = W.frozen? ⟨b, o, none⟩) :=
  ⟨fun b o h => hb.cell (p := ⟨b, o, none⟩) h, fun b o h => hb.frozen (p := ⟨b, o, none⟩) h⟩
theorem below_alloc {a w : World} (h : Below a.heap.size a w) (o : Obj) : Below a.heap.size a (w.alloc o) := h.alloc h.size o
theorem below_step {w w1 : World} {o : Obj} (hb : Below (w.alloc o).heap.size (w.alloc o) w1) : Below w.heap.size w w1 :=
  (below_alloc (Below.refl _ w) o).trans (hb.mono (by simp))
theorem ret_b {u u' : Bool} (h : u = u') : Ending.returned (.bool u) = .returned (.bool u') := by rw [h]
theorem ret_one {k : IntKind} {a b : Int} (h : a = b) : Ending.returned (.int k a) = .returned (.int k b) := by rw [h]
theorem ret_v {v v' : Value} (h : v = v') : Ending.returned v = .returned v' := by rw [h]
def isInt (n : Int) : Prop := -9223372036854775808 ≤ n ∧ n ≤ 9223372036854775807
theorem tmod_emod (n m : Int) (hm : 0 < m) : n.tmod m = if 0 ≤ n then n % m else if n % m = 0 then 0 else n % m - m := by
  split
  · rename_i h; exact Int.tmod_eq_emod_of_nonneg h
  · rename_i h
    have h1 : n.tmod m = - ((-n) % m) := by
      have := Int.neg_tmod (-n) m
      rw [Int.neg_neg] at this
      rw [this, Int.tmod_eq_emod_of_nonneg (by omega)]
    have h2 : (-n) % m = if n % m = 0 then 0 else m - n % m := by
      have hd := Int.mul_ediv_add_emod n m
      have hp := Int.emod_nonneg n (by omega : m ≠ 0)
      have hq := Int.emod_lt_of_pos n hm
      split
      · rename_i h0
        have : m ∣ n := Int.dvd_of_emod_eq_zero h0
        exact Int.emod_eq_zero_of_dvd (Int.dvd_neg.2 this)
      · rename_i h0
        have e : -n = (m - n % m) + m * (-(n / m) - 1) := by
          rw [Int.mul_sub, Int.mul_neg, Int.mul_one]; omega
        rw [e, Int.add_mul_emod_self_left]
        exact Int.emod_eq_of_lt (by omega) (by omega)
    rw [h1, h2]; split <;> omega
set_option maxHeartbeats 400000 in
theorem within_any (n lo hi : Int) (w : World) (h0 : -9223372036854775808 ≤ n) (h1 : n ≤ 9223372036854775807) (h2 : 0 ≤ lo) (h3 : lo ≤ hi) (h4 : hi ≤ 1099511627776) :
    Calls Try.prog 12 #[.int .i64 n, .int .i64 lo, .int .i64 hi] w fun e w' => e = .returned (.int .i64 (lo + n % (hi - lo + 1))) ∧ w = w' := by
  have ht := tmod_emod n (hi - lo + 1) (by omega)
  have hp := Int.emod_nonneg n (by omega : hi - lo + 1 ≠ 0)
  have hq := Int.emod_lt_of_pos n (by omega : 0 < hi - lo + 1)
  generalize n % (hi - lo + 1) = r at *
  have b1 : -(hi - lo + 1) < n.tmod (hi - lo + 1) := by rw [ht]; split <;> (try split) <;> omega
  have b2 : n.tmod (hi - lo + 1) < hi - lo + 1 := by rw [ht]; split <;> (try split) <;> omega
  have Ht := Lib.hid ht
  clear ht
  go_enter Try.func12, Try.ntmps12
  go_wp2
  all_goals
    go_ret
    refine ⟨ret_one ?_, rfl⟩
    have := Ht.out
    revert this
    split <;> (try split) <;> intro this <;> omega
def valB (n at_ : Int) : Bool := decide (0 ≤ n) && decide (n < at_)
set_option maxHeartbeats 400000 in
theorem value_any (n m : Int) (w : World) : Calls Try.prog 33 #[.int .i64 n, .int .i64 m] w fun e w' => e = .returned (.bool (valB n m)) ∧ w = w' := by
  generalize hq : valB n m = q
  have H := Lib.hid hq
  clear hq
  go_enter Try.func33, Try.ntmps33
  go_wp2
  all_goals
    go_ret
    refine ⟨ret_b ?_, rfl⟩
    rw [← H.out]
    unfold valB
    (rw [Bool.eq_iff_iff]; simp <;> omega)
/-- From where to where a value lives. -/
structure IV where
  v : Int
  f : Int
  t : Int
def IV.cells (i : IV) : List Value := [.int .i64 i.v, .int .i64 i.f, .int .i64 i.t]
def meetB (af at_ bf bt : Int) : Bool := (decide (af < bt) && decide (bf < at_)) || decide (af = bf)
set_option maxHeartbeats 400000 in
theorem meet_any (a b c d e f : Int) (w : World) : Calls Try.prog 13 #[.agg #[.int .i64 a, .int .i64 b, .int .i64 c], .agg #[.int .i64 d, .int .i64 e, .int .i64 f]] w fun r w' => r = .returned (.bool (meetB b c e f)) ∧ Below w.heap.size w w' := by
  generalize hq : meetB b c e f = q
  have H := Lib.hid hq
  clear hq
  go_enter Try.func13, Try.ntmps13
  go_wp2
  all_goals
    go_ret
    refine ⟨ret_b ?_, below_alloc (below_alloc (Below.refl _ _) _) _⟩
    rw [← H.out]
    unfold meetB
    (rw [Bool.eq_iff_iff]; simp <;> omega)
set_option maxHeartbeats 400000 in
theorem rmeet_any (a b c d e f : Int) (w : World) : Calls Try.prog 14 #[.agg #[.int .i64 a, .int .i64 b, .int .i64 c], .agg #[.int .i64 d, .int .i64 e, .int .i64 f]] w fun r w' => r = .returned (.bool (meetB b c e f)) ∧ Below w.heap.size w w' := by
  generalize hq : meetB b c e f = q
  have H := Lib.hid hq
  clear hq
  go_enter Try.func14, Try.ntmps14
  go_wp2
  all_goals
    go_ret
    refine ⟨ret_b ?_, below_alloc (below_alloc (Below.refl _ _) _) _⟩
    rw [← H.out]
    unfold meetB
    (rw [Bool.eq_iff_iff]; simp <;> omega)
def atB (f t x : Int) : Bool := (decide (f ≤ x) && decide (x < t)) || (decide (f = x) && decide (t = x))
set_option maxHeartbeats 400000 in
theorem at_any (a b c x : Int) (w : World) : Calls Try.prog 22 #[.agg #[.int .i64 a, .int .i64 b, .int .i64 c], .int .i64 x] w fun r w' => r = .returned (.bool (atB b c x)) ∧ Below w.heap.size w w' := by
  generalize hq : atB b c x = q
  have H := Lib.hid hq
  clear hq
  go_enter Try.func22, Try.ntmps22
  go_wp2
  all_goals
    go_ret
    refine ⟨ret_b ?_, below_alloc (Below.refl _ _) _⟩
    rw [← H.out]
    unfold atB
    (rw [Bool.eq_iff_iff]; simp <;> omega)
end Go.Proofs.Ytahikechkggbfaa
