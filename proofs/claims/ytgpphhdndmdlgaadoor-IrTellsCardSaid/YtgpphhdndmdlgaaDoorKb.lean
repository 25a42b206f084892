/- Words of 32 bits. -/
import Derived.Test.YtgpphhdndmdlgaaDoorKa
namespace Go.Proofs.YtgpphhdndmdlgaaDoor
open Go Go.Ev Go.RowKit
set_option linter.unusedVariables false
set_option linter.unusedSimpArgs false
set_option maxRecDepth 100000
namespace Ls

def pf (r : Int) : Int := (if r = 0 then 1 else 0) + (if 2147483648 ≤ r then 2 else 0)
theorem pf_rng (r : Int) : 0 ≤ pf r ∧ pf r ≤ 3 := by unfold pf; constructor <;> (split <;> split <;> omega)

theorem u32_and (a b : Nat) (ha : a < 4294967296) (hb : b < 4294967296) : bits .and .u32 a b = ((a &&& b : Nat) : Int) :=
 (bits_nat .u32 32 (by decide) (fun n h0 h1 => by rw [IntKind.wrap_u32]; omega) a b (by omega) (by omega)).1
theorem u32_or (a b : Nat) (ha : a < 4294967296) (hb : b < 4294967296) : bits .or .u32 a b = ((a ||| b : Nat) : Int) :=
 (bits_nat .u32 32 (by decide) (fun n h0 h1 => by rw [IntKind.wrap_u32]; omega) a b (by omega) (by omega)).2
theorem u32_xor (a b : Nat) (ha : a < 4294967296) (hb : b < 4294967296) : bits .xor .u32 a b = ((a ^^^ b : Nat) : Int) := by
 have hx : a ^^^ b < 2 ^ 32 := Nat.xor_lt_two_pow (by omega) (by omega)
 have h1 : (BitVec.ofInt 32 (a : Int)).toNat = a := by
  rw [BitVec.toNat_ofInt]; omega
 have h2 : (BitVec.ofInt 32 (b : Int)).toNat = b := by
  rw [BitVec.toNat_ofInt]; omega
 show IntKind.u32.wrap (((BitVec.ofInt 32 (a : Int)) ^^^ (BitVec.ofInt 32 (b : Int))).toNat : Int) = _
 rw [BitVec.toNat_xor, h1, h2, IntKind.wrap_u32]; omega

theorem top_nat (a : Nat) (ha : a < 4294967296) : a &&& 2147483648 = if 2147483648 ≤ a then 2147483648 else 0 := by
 have h2 : a / 2 ^ 31 = if 2147483648 ≤ a then 1 else 0 := by split <;> omega
 have h3 : ∀ i, Nat.testBit 2147483648 i = decide (31 = i) := fun i => Nat.testBit_two_pow (n := 31) (m := i)
 apply Nat.eq_of_testBit_eq
 intro i
 rw [Nat.testBit_and, h3]
 by_cases hi : 31 = i
 ·subst hi
  rw [Nat.testBit_eq_decide_div_mod_eq, h2]
  split <;> simp [h3]
 ·split <;> simp [hi, h3]
theorem top_and (r : Int) (h0 : 0 ≤ r) (h1 : r < 4294967296) : bits .and .u32 r 2147483648 = if 2147483648 ≤ r then 2147483648 else 0 := by
 obtain ⟨n, rfl⟩ := Int.eq_ofNat_of_zero_le h0
 have h := u32_and n 2147483648 (by omega) (by omega)
 rw [top_nat n (by omega)] at h
 refine h.trans ?_
 split <;> split <;> omega
theorem top_yes {r : Int} (h0 : 0 ≤ r) (h1 : r < 4294967296) (h : 2147483648 ≤ r) : (bits BinOp.and IntKind.u32 r 2147483648 != 0) = true := by
 rw [top_and r h0 h1, if_pos h]; rfl
theorem top_no {r : Int} (h0 : 0 ≤ r) (h1 : r < 4294967296) (h : r < 2147483648) : (bits BinOp.and IntKind.u32 r 2147483648 != 0) = false := by
 rw [top_and r h0 h1, if_neg (by omega)]; rfl
theorem or4 {f : Int} (h0 : 0 ≤ f) (h1 : f ≤ 3) : bits .or .u32 f 4 = f + 4 := by
 rcases (by omega : f = 0 ∨ f = 1 ∨ f = 2 ∨ f = 3) with rfl | rfl | rfl | rfl <;> decide
theorem or8 {f : Int} (h0 : 0 ≤ f) (h1 : f ≤ 7) : bits .or .u32 f 8 = f + 8 := by
 rcases (by omega : f = 0 ∨ f = 1 ∨ f = 2 ∨ f = 3 ∨ f = 4 ∨ f = 5 ∨ f = 6 ∨ f = 7) with rfl | rfl | rfl | rfl | rfl | rfl | rfl | rfl <;> decide

set_option maxHeartbeats 400000 in
theorem plain_any (r : Int) (w : World) (h0 : 0 ≤ r) (h1 : r < 4294967296) :
    Calls Tryd.prog 75 #[.int .u32 r] w fun e w' => e = .returned (.int .u32 (pf r)) ∧ w = w' := by
 by_cases hz : r = 0
 ·subst hz
  go_enter Tryd.func75, Tryd.ntmps75
  go_wp2
  go_ret
  exact ⟨rfl, rfl⟩
 ·have hz' : (r == 0) = false := by simpa using hz
  by_cases ht : 2147483648 ≤ r
  ·have hf : pf r = 2 := by unfold pf; rw [if_neg hz, if_pos ht]; rfl
   have htop := top_yes h0 h1 ht
   have Hf := Lib.hid hf
   clear hf hz
   go_enter Tryd.func75, Tryd.ntmps75
   go_wp2
   go_ret
   exact ⟨ret_one (by rw [Hf.out]; decide), rfl⟩
  ·have hf : pf r = 0 := by unfold pf; rw [if_neg hz, if_neg ht]; rfl
   have htop := top_no h0 h1 (by omega)
   have Hf := Lib.hid hf
   clear hf hz
   go_enter Tryd.func75, Tryd.ntmps75
   go_wp2
   go_ret
   exact ⟨ret_one (by rw [Hf.out]), rfl⟩

def ovs (a b : Int) : Bool := bits BinOp.and IntKind.u32 (bits BinOp.and IntKind.u32 (bits BinOp.xor IntKind.u32 a b) (bits BinOp.xor IntKind.u32 a ((a - b) % 4294967296))) 2147483648 != 0
def ova (a b : Int) : Bool := bits BinOp.and IntKind.u32 (bits BinOp.and IntKind.u32 (bits BinOp.xor IntKind.u32 a ((a + b) % 4294967296)) (bits BinOp.xor IntKind.u32 b ((a + b) % 4294967296))) 2147483648 != 0
def lessF (a b : Int) : Int := pf ((a - b) % 4294967296) + (if a < b then 4 else 0) + (if ovs a b = true then 8 else 0)
def moreF (a b : Int) : Int := pf ((a + b) % 4294967296) + (if (a + b) % 4294967296 < a then 4 else 0) + (if ova a b = true then 8 else 0)

set_option maxHeartbeats 400000 in
theorem less_any (a b : Int) (w : World) (h0 : 0 ≤ a) (h1 : a < 4294967296) (h2 : 0 ≤ b) (h3 : b < 4294967296) :
    Calls Tryd.prog 73 #[.int .u32 a, .int .u32 b] w fun e w' => e = .returned (.int .u32 (lessF a b)) ∧ w = w' := by
 have hp := pf_rng ((a - b) % 4294967296)
 generalize hL : lessF a b = L
 have HL := Lib.hid hL
 clear hL
 go_enter Tryd.func73, Tryd.ntmps73
 go_wp2_with (go_at_call 75; refine (plain_any _ _ (by omega) (by omega)).mono ?_; rintro e w' ⟨rfl, rfl⟩)
 all_goals
  go_ret
  refine ⟨ret_one ?_, rfl⟩
  rw [← HL.out]
  unfold lessF
  first
  | (have ho : ovs a b = true := (by unfold ovs; assumption)
     rw [if_pos (by assumption : a < b), if_pos ho]
     exact (congrArg (fun z => bits .or .u32 z 8) (or4 hp.1 hp.2)).trans (or8 (by omega) (by omega)))
  | (have ho : ¬ ovs a b = true := (by unfold ovs; simp only [Bool.not_eq_true]; assumption)
     rw [if_pos (by assumption : a < b), if_neg ho]
     exact (or4 hp.1 hp.2).trans (by omega))
  | (have ho : ovs a b = true := (by unfold ovs; assumption)
     rw [if_neg (by omega : ¬ a < b), if_pos ho]
     exact (or8 hp.1 (by omega)).trans (by omega))
  | (have ho : ¬ ovs a b = true := (by unfold ovs; simp only [Bool.not_eq_true]; assumption)
     rw [if_neg (by omega : ¬ a < b), if_neg ho]
     exact (by simp))

set_option maxHeartbeats 400000 in
theorem more_any (a b : Int) (w : World) (h0 : 0 ≤ a) (h1 : a < 4294967296) (h2 : 0 ≤ b) (h3 : b < 4294967296) :
    Calls Tryd.prog 72 #[.int .u32 a, .int .u32 b] w fun e w' => e = .returned (.int .u32 (moreF a b)) ∧ w = w' := by
 have hp := pf_rng ((a + b) % 4294967296)
 generalize hL : moreF a b = L
 have HL := Lib.hid hL
 clear hL
 go_enter Tryd.func72, Tryd.ntmps72
 go_wp2_with (go_at_call 75; refine (plain_any _ _ (by omega) (by omega)).mono ?_; rintro e w' ⟨rfl, rfl⟩)
 all_goals
  go_ret
  refine ⟨ret_one ?_, rfl⟩
  rw [← HL.out]
  unfold moreF
  first
  | (have ho : ova a b = true := (by unfold ova; assumption)
     rw [if_pos (by assumption : (a + b) % 4294967296 < a), if_pos ho]
     exact (congrArg (fun z => bits .or .u32 z 8) (or4 hp.1 hp.2)).trans (or8 (by omega) (by omega)))
  | (have ho : ¬ ova a b = true := (by unfold ova; simp only [Bool.not_eq_true]; assumption)
     rw [if_pos (by assumption : (a + b) % 4294967296 < a), if_neg ho]
     exact (or4 hp.1 hp.2).trans (by omega))
  | (have ho : ova a b = true := (by unfold ova; assumption)
     rw [if_neg (by omega : ¬ (a + b) % 4294967296 < a), if_pos ho]
     exact (or8 hp.1 (by omega)).trans (by omega))
  | (have ho : ¬ ova a b = true := (by unfold ova; simp only [Bool.not_eq_true]; assumption)
     rw [if_neg (by omega : ¬ (a + b) % 4294967296 < a), if_neg ho]
     exact (by simp))

def mvF (a b : Int) (u : Bool) : Int := if 32 ≤ b then 0 else if u = true then a * 2 ^ b.toNat % 4294967296 else a / 2 ^ b.toNat
set_option maxHeartbeats 400000 in
theorem moved_any (a b : Int) (u : Bool) (w : World) (h0 : 0 ≤ a) (h1 : a < 4294967296)  (h2 : 0 ≤ b) (h3 : b < 4294967296) :
    Calls Tryd.prog 74 #[.int .u32 a, .int .u32 b, .bool u] w fun e w' => e = .returned (.int .u32 (mvF a b u)) ∧ w = w' := by
 generalize hL : mvF a b u = L
 have HL := Lib.hid hL
 clear hL
 go_enter Tryd.func74, Tryd.ntmps74
 go_wp2
 all_goals
  go_ret
  refine ⟨ret_one ?_, rfl⟩
  rw [← HL.out]
  unfold mvF
  first
  | (rw [if_pos (by assumption : 32 ≤ b)]; done)
  | (rw [if_neg (by omega : ¬ 32 ≤ b), if_pos (by assumption : u = true)]; done)
  | (have hu : u = false := by assumption
     subst hu
     rw [if_neg (by omega : ¬ 32 ≤ b), if_neg (by decide)]; done)

def doR (op a b : Int) : Int :=
 if op = 16 then (a + b) % 4294967296 else if op = 17 then (a - b) % 4294967296 else if op = 18 then bits .and .u32 a b else if op = 19 then bits .or .u32 a b
 else if op = 20 then bits .xor .u32 a b else if op = 21 then mvF a b true else if op = 22 then mvF a b false else if op = 23 then a * b % 4294967296
 else if op = 24 then (if b = 0 then 0 else a / b) else 0
def doF (op a b : Int) : Int :=
 if op = 16 then moreF a b else if op = 17 then lessF a b else if op = 25 then lessF a b
 else if 18 ≤ op ∧ op ≤ 23 then pf (doR op a b) else if op = 24 then (if b = 0 then 0 else pf (a / b)) else 0
def doK (op b : Int) : Bool := decide (16 ≤ op ∧ op ≤ 25 ∧ ¬ (op = 24 ∧ b = 0))

theorem ret_three {a a' b b' : Int} {u u' : Bool} (h : a = a') (h' : b = b') (h'' : u = u') :
    Ending.returned (.tuple #[.int .u32 a, .int .u32 b, .bool u]) = .returned (.tuple #[.int .u32 a', .int .u32 b', .bool u']) := by rw [h, h', h'']

set_option maxHeartbeats 400000 in
theorem do_16 (a b : Int) (w : World) (h0 : 0 ≤ a) (h1 : a < 4294967296) (h2 : 0 ≤ b) (h3 : b < 4294967296) :
    Calls Tryd.prog 52 #[.int .i64 16, .int .u32 a, .int .u32 b] w fun e w' => e = .returned (.tuple #[.int .u32 (doR 16 a b), .int .u32 (doF 16 a b), .bool (doK 16 b)]) ∧ w = w' := by
 go_enter Tryd.func52, Tryd.ntmps52
 go_wp2_with (first | (go_at_call 72; refine (more_any _ _ _ (by omega) (by omega) (by omega) (by omega)).mono ?_; rintro e w' ⟨rfl, rfl⟩) | (go_at_call 73; refine (less_any _ _ _ (by omega) (by omega) (by omega) (by omega)).mono ?_; rintro e w' ⟨rfl, rfl⟩))
 go_ret3
 exact ⟨ret_three rfl rfl rfl, rfl⟩
set_option maxHeartbeats 400000 in
theorem do_17 (a b : Int) (w : World) (h0 : 0 ≤ a) (h1 : a < 4294967296) (h2 : 0 ≤ b) (h3 : b < 4294967296) :
    Calls Tryd.prog 52 #[.int .i64 17, .int .u32 a, .int .u32 b] w fun e w' => e = .returned (.tuple #[.int .u32 (doR 17 a b), .int .u32 (doF 17 a b), .bool (doK 17 b)]) ∧ w = w' := by
 go_enter Tryd.func52, Tryd.ntmps52
 go_wp2_with (first | (go_at_call 72; refine (more_any _ _ _ (by omega) (by omega) (by omega) (by omega)).mono ?_; rintro e w' ⟨rfl, rfl⟩) | (go_at_call 73; refine (less_any _ _ _ (by omega) (by omega) (by omega) (by omega)).mono ?_; rintro e w' ⟨rfl, rfl⟩))
 go_ret3
 exact ⟨ret_three rfl rfl rfl, rfl⟩
set_option maxHeartbeats 400000 in
theorem do_25 (a b : Int) (w : World) (h0 : 0 ≤ a) (h1 : a < 4294967296) (h2 : 0 ≤ b) (h3 : b < 4294967296) :
    Calls Tryd.prog 52 #[.int .i64 25, .int .u32 a, .int .u32 b] w fun e w' => e = .returned (.tuple #[.int .u32 (doR 25 a b), .int .u32 (doF 25 a b), .bool (doK 25 b)]) ∧ w = w' := by
 go_enter Tryd.func52, Tryd.ntmps52
 go_wp2_with (first | (go_at_call 72; refine (more_any _ _ _ (by omega) (by omega) (by omega) (by omega)).mono ?_; rintro e w' ⟨rfl, rfl⟩) | (go_at_call 73; refine (less_any _ _ _ (by omega) (by omega) (by omega) (by omega)).mono ?_; rintro e w' ⟨rfl, rfl⟩))
 go_ret3
 exact ⟨ret_three rfl rfl rfl, rfl⟩
theorem and_rng (a b : Int) (h0 : 0 ≤ a) (h1 : a < 4294967296) (h2 : 0 ≤ b) (h3 : b < 4294967296) : 0 ≤ bits .and .u32 a b ∧ bits .and .u32 a b < 4294967296 := by
 obtain ⟨n, rfl⟩ := Int.eq_ofNat_of_zero_le h0
 obtain ⟨m, rfl⟩ := Int.eq_ofNat_of_zero_le h2
 rw [u32_and n m (by omega) (by omega)]
 have := Nat.and_lt_two_pow n (y := m) (n := 32) (by omega)
 omega
theorem or_rng (a b : Int) (h0 : 0 ≤ a) (h1 : a < 4294967296) (h2 : 0 ≤ b) (h3 : b < 4294967296) : 0 ≤ bits .or .u32 a b ∧ bits .or .u32 a b < 4294967296 := by
 obtain ⟨n, rfl⟩ := Int.eq_ofNat_of_zero_le h0
 obtain ⟨m, rfl⟩ := Int.eq_ofNat_of_zero_le h2
 rw [u32_or n m (by omega) (by omega)]
 have := Nat.or_lt_two_pow (x := n) (y := m) (n := 32) (by omega) (by omega)
 omega
theorem xor_rng (a b : Int) (h0 : 0 ≤ a) (h1 : a < 4294967296) (h2 : 0 ≤ b) (h3 : b < 4294967296) : 0 ≤ bits .xor .u32 a b ∧ bits .xor .u32 a b < 4294967296 := by
 obtain ⟨n, rfl⟩ := Int.eq_ofNat_of_zero_le h0
 obtain ⟨m, rfl⟩ := Int.eq_ofNat_of_zero_le h2
 rw [u32_xor n m (by omega) (by omega)]
 have := Nat.xor_lt_two_pow (x := n) (y := m) (n := 32) (by omega) (by omega)
 omega
theorem div_rng (a b : Int) (h0 : 0 ≤ a) (h1 : a < 4294967296) (h2 : 0 ≤ b) : 0 ≤ a / b ∧ a / b < 4294967296 := by
 refine ⟨Int.ediv_nonneg h0 h2, ?_⟩
 have := Int.ediv_le_self b h0
 omega
theorem pow_pos' (n : Nat) : (0 : Int) < 2 ^ n := Int.pow_pos (by decide)
theorem mv_rng (a b : Int) (u : Bool) (h0 : 0 ≤ a) (h1 : a < 4294967296) : 0 ≤ mvF a b u ∧ mvF a b u < 4294967296 := by
 unfold mvF
 split
 ·omega
 ·split
  ·omega
  ·exact div_rng a _ h0 h1 (Int.le_of_lt (pow_pos' _))
set_option maxHeartbeats 400000 in
theorem do_18 (a b : Int) (w : World) (h0 : 0 ≤ a) (h1 : a < 4294967296) (h2 : 0 ≤ b) (h3 : b < 4294967296) :
    Calls Tryd.prog 52 #[.int .i64 18, .int .u32 a, .int .u32 b] w fun e w' => e = .returned (.tuple #[.int .u32 (doR 18 a b), .int .u32 (doF 18 a b), .bool (doK 18 b)]) ∧ w = w' := by
 have hb := and_rng a b h0 h1 h2 h3
 go_enter Tryd.func52, Tryd.ntmps52
 go_wp2_with (first | (go_at_call 75; refine (plain_any _ _ hb.1 hb.2).mono ?_; rintro e w' ⟨rfl, rfl⟩) | (go_at_call 74; refine (moved_any _ _ _ _ (by omega) (by omega) (by omega) (by omega)).mono ?_; rintro e w' ⟨rfl, rfl⟩))
 go_ret3
 exact ⟨ret_three rfl rfl rfl, rfl⟩
set_option maxHeartbeats 400000 in
theorem do_19 (a b : Int) (w : World) (h0 : 0 ≤ a) (h1 : a < 4294967296) (h2 : 0 ≤ b) (h3 : b < 4294967296) :
    Calls Tryd.prog 52 #[.int .i64 19, .int .u32 a, .int .u32 b] w fun e w' => e = .returned (.tuple #[.int .u32 (doR 19 a b), .int .u32 (doF 19 a b), .bool (doK 19 b)]) ∧ w = w' := by
 have hb := or_rng a b h0 h1 h2 h3
 go_enter Tryd.func52, Tryd.ntmps52
 go_wp2_with (first | (go_at_call 75; refine (plain_any _ _ hb.1 hb.2).mono ?_; rintro e w' ⟨rfl, rfl⟩) | (go_at_call 74; refine (moved_any _ _ _ _ (by omega) (by omega) (by omega) (by omega)).mono ?_; rintro e w' ⟨rfl, rfl⟩))
 go_ret3
 exact ⟨ret_three rfl rfl rfl, rfl⟩
set_option maxHeartbeats 400000 in
theorem do_20 (a b : Int) (w : World) (h0 : 0 ≤ a) (h1 : a < 4294967296) (h2 : 0 ≤ b) (h3 : b < 4294967296) :
    Calls Tryd.prog 52 #[.int .i64 20, .int .u32 a, .int .u32 b] w fun e w' => e = .returned (.tuple #[.int .u32 (doR 20 a b), .int .u32 (doF 20 a b), .bool (doK 20 b)]) ∧ w = w' := by
 have hb := xor_rng a b h0 h1 h2 h3
 go_enter Tryd.func52, Tryd.ntmps52
 go_wp2_with (first | (go_at_call 75; refine (plain_any _ _ hb.1 hb.2).mono ?_; rintro e w' ⟨rfl, rfl⟩) | (go_at_call 74; refine (moved_any _ _ _ _ (by omega) (by omega) (by omega) (by omega)).mono ?_; rintro e w' ⟨rfl, rfl⟩))
 go_ret3
 exact ⟨ret_three rfl rfl rfl, rfl⟩
set_option maxHeartbeats 400000 in
theorem do_21 (a b : Int) (w : World) (h0 : 0 ≤ a) (h1 : a < 4294967296) (h2 : 0 ≤ b) (h3 : b < 4294967296) :
    Calls Tryd.prog 52 #[.int .i64 21, .int .u32 a, .int .u32 b] w fun e w' => e = .returned (.tuple #[.int .u32 (doR 21 a b), .int .u32 (doF 21 a b), .bool (doK 21 b)]) ∧ w = w' := by
 have hb := mv_rng a b true h0 h1
 go_enter Tryd.func52, Tryd.ntmps52
 go_wp2_with (first | (go_at_call 75; refine (plain_any _ _ hb.1 hb.2).mono ?_; rintro e w' ⟨rfl, rfl⟩) | (go_at_call 74; refine (moved_any _ _ _ _ (by omega) (by omega) (by omega) (by omega)).mono ?_; rintro e w' ⟨rfl, rfl⟩))
 go_ret3
 exact ⟨ret_three rfl rfl rfl, rfl⟩
set_option maxHeartbeats 400000 in
theorem do_22 (a b : Int) (w : World) (h0 : 0 ≤ a) (h1 : a < 4294967296) (h2 : 0 ≤ b) (h3 : b < 4294967296) :
    Calls Tryd.prog 52 #[.int .i64 22, .int .u32 a, .int .u32 b] w fun e w' => e = .returned (.tuple #[.int .u32 (doR 22 a b), .int .u32 (doF 22 a b), .bool (doK 22 b)]) ∧ w = w' := by
 have hb := mv_rng a b false h0 h1
 go_enter Tryd.func52, Tryd.ntmps52
 go_wp2_with (first | (go_at_call 75; refine (plain_any _ _ hb.1 hb.2).mono ?_; rintro e w' ⟨rfl, rfl⟩) | (go_at_call 74; refine (moved_any _ _ _ _ (by omega) (by omega) (by omega) (by omega)).mono ?_; rintro e w' ⟨rfl, rfl⟩))
 go_ret3
 exact ⟨ret_three rfl rfl rfl, rfl⟩
set_option maxHeartbeats 400000 in
theorem do_23 (a b : Int) (w : World) (h0 : 0 ≤ a) (h1 : a < 4294967296) (h2 : 0 ≤ b) (h3 : b < 4294967296) :
    Calls Tryd.prog 52 #[.int .i64 23, .int .u32 a, .int .u32 b] w fun e w' => e = .returned (.tuple #[.int .u32 (doR 23 a b), .int .u32 (doF 23 a b), .bool (doK 23 b)]) ∧ w = w' := by
 have hb := (by omega : 0 ≤ a * b % 4294967296 ∧ a * b % 4294967296 < 4294967296)
 go_enter Tryd.func52, Tryd.ntmps52
 go_wp2_with (first | (go_at_call 75; refine (plain_any _ _ hb.1 hb.2).mono ?_; rintro e w' ⟨rfl, rfl⟩) | (go_at_call 74; refine (moved_any _ _ _ _ (by omega) (by omega) (by omega) (by omega)).mono ?_; rintro e w' ⟨rfl, rfl⟩))
 go_ret3
 exact ⟨ret_three rfl rfl rfl, rfl⟩
set_option maxHeartbeats 400000 in
theorem do_24 (a b : Int) (w : World) (h0 : 0 ≤ a) (h1 : a < 4294967296) (h2 : 0 ≤ b) (h3 : b < 4294967296) :
    Calls Tryd.prog 52 #[.int .i64 24, .int .u32 a, .int .u32 b] w fun e w' => e = .returned (.tuple #[.int .u32 (doR 24 a b), .int .u32 (doF 24 a b), .bool (doK 24 b)]) ∧ w = w' := by
 by_cases hz : b = 0
 ·subst hz
  go_enter Tryd.func52, Tryd.ntmps52
  go_wp2
  go_ret3
  exact ⟨ret_three rfl rfl rfl, rfl⟩
 ·have hb := div_rng a b h0 h1 h2
  have hz' : (b == 0) = false := by simpa using hz
  have hR : doR 24 a b = a / b := by unfold doR; simp [hz]
  have hF : doF 24 a b = pf (a / b) := by unfold doF; simp [hz]
  have hK : doK 24 b = true := by unfold doK; simp [hz]
  have HR := Lib.hid hR
  have HF := Lib.hid hF
  have HK := Lib.hid hK
  clear hR hF hK
  go_enter Tryd.func52, Tryd.ntmps52
  go_wp2_with (first | (go_at_call 75; refine (plain_any _ _ hb.1 hb.2).mono ?_; rintro e w' ⟨rfl, rfl⟩) | (go_at_call 74; refine (moved_any _ _ _ _ (by omega) (by omega) (by omega) (by omega)).mono ?_; rintro e w' ⟨rfl, rfl⟩))
  go_ret3
  exact ⟨ret_three HR.out.symm HF.out.symm HK.out.symm, rfl⟩
set_option maxHeartbeats 400000 in
theorem do_no (op a b : Int) (w : World) (h : op < 16 ∨ 25 < op) :
    Calls Tryd.prog 52 #[.int .i64 op, .int .u32 a, .int .u32 b] w fun e w' => e = .returned (.tuple #[.int .u32 (doR op a b), .int .u32 (doF op a b), .bool (doK op b)]) ∧ w = w' := by
 have hR : doR op a b = 0 := by unfold doR; repeat (first | rw [if_neg (by omega)])
 have hF : doF op a b = 0 := by unfold doF; repeat (first | rw [if_neg (by omega)])
 have hK : doK op b = false := by unfold doK; simp; omega
 have HR := Lib.hid hR
 have HF := Lib.hid hF
 have HK := Lib.hid hK
 clear hR hF hK
 rcases h with h | h
 all_goals
  go_enter Tryd.func52, Tryd.ntmps52
  go_wp2
  go_ret3
  exact ⟨ret_three HR.out.symm HF.out.symm HK.out.symm, rfl⟩
theorem do_any (op a b : Int) (w : World) (h0 : 0 ≤ a) (h1 : a < 4294967296) (h2 : 0 ≤ b) (h3 : b < 4294967296) :
    Calls Tryd.prog 52 #[.int .i64 op, .int .u32 a, .int .u32 b] w fun e w' => e = .returned (.tuple #[.int .u32 (doR op a b), .int .u32 (doF op a b), .bool (doK op b)]) ∧ w = w' := by
 by_cases h : op < 16 ∨ 25 < op
 ·exact do_no op a b w h
 ·rcases (by omega : op = 16 ∨ op = 17 ∨ op = 18 ∨ op = 19 ∨ op = 20 ∨ op = 21 ∨ op = 22 ∨ op = 23 ∨ op = 24 ∨ op = 25) with rfl | rfl | rfl | rfl | rfl | rfl | rfl | rfl | rfl | rfl
  ·exact do_16 a b w h0 h1 h2 h3
  ·exact do_17 a b w h0 h1 h2 h3
  ·exact do_18 a b w h0 h1 h2 h3
  ·exact do_19 a b w h0 h1 h2 h3
  ·exact do_20 a b w h0 h1 h2 h3
  ·exact do_21 a b w h0 h1 h2 h3
  ·exact do_22 a b w h0 h1 h2 h3
  ·exact do_23 a b w h0 h1 h2 h3
  ·exact do_24 a b w h0 h1 h2 h3
  ·exact do_25 a b w h0 h1 h2 h3
def rawF (op a b : Int) : Int :=
 if op = 16 then (if 4294967296 ≤ a + b then 4 else 0) + (if a / 2147483648 = b / 2147483648 ∧ ¬ ((a + b) % 4294967296) / 2147483648 = a / 2147483648 then 8 else 0)
 else if op = 17 ∨ op = 25 then (if a < b then 4 else 0) + (if ¬ a / 2147483648 = b / 2147483648 ∧ ¬ ((a - b) % 4294967296) / 2147483648 = a / 2147483648 then 8 else 0)
 else 0
def rawR (op a b : Int) : Int := if op = 25 then (a - b) % 4294967296 else doR op a b

theorem or48 : bits BinOp.or IntKind.u32 4 8 = 12 := by decide
theorem or08 : bits BinOp.or IntKind.u32 0 8 = 8 := by decide

set_option maxHeartbeats 400000 in
theorem raw_16 (a b : Int) (w : World) (h0 : 0 ≤ a) (h1 : a < 4294967296) (h2 : 0 ≤ b) (h3 : b < 4294967296) :
    Calls Tryd.prog 76 #[.int .i64 16, .int .u32 a, .int .u32 b] w fun e w' => e = .returned (.tuple #[.int .u32 (rawR 16 a b), .int .u32 (rawF 16 a b), .bool (doK 16 b)]) ∧ w = w' := by
 generalize hF : rawF 16 a b = F
 have HF := Lib.hid hF
 clear hF
 go_enter Tryd.func76, Tryd.ntmps76
 go_wp2
 all_goals
  go_ret3
  refine ⟨ret_three rfl ?_ rfl, rfl⟩
  rw [← HF.out]
  unfold rawF
  rw [if_pos rfl]
  (try simp only [bne_iff_ne, ne_eq, bne_eq_false_iff_eq] at *)
  (try rw [or48])
  (try rw [or08])
  (repeat' split) <;> omega
set_option maxHeartbeats 400000 in
theorem raw_17 (op a b : Int) (w : World) (ho : op = 17 ∨ op = 25) (h0 : 0 ≤ a) (h1 : a < 4294967296) (h2 : 0 ≤ b) (h3 : b < 4294967296) :
    Calls Tryd.prog 76 #[.int .i64 op, .int .u32 a, .int .u32 b] w fun e w' => e = .returned (.tuple #[.int .u32 (rawR op a b), .int .u32 (rawF op a b), .bool (doK op b)]) ∧ w = w' := by
 rcases ho with rfl | rfl
 all_goals
  generalize hF : rawF _ a b = F
  have HF := Lib.hid hF
  clear hF
  go_enter Tryd.func76, Tryd.ntmps76
  go_wp2
  all_goals
   go_ret3
   refine ⟨ret_three rfl ?_ rfl, rfl⟩
   rw [← HF.out]
   unfold rawF
   rw [if_neg (by omega), if_pos (by omega)]
   (try simp only [bne_iff_ne, ne_eq, bne_eq_false_iff_eq] at *)
   (try rw [or48])
   (try rw [or08])
   (repeat' split) <;> omega
set_option maxHeartbeats 400000 in
theorem raw_mid (op a b : Int) (w : World) (ho : op = 18 ∨ op = 19 ∨ op = 20 ∨ op = 23) (h0 : 0 ≤ a) (h1 : a < 4294967296) (h2 : 0 ≤ b) (h3 : b < 4294967296) :
    Calls Tryd.prog 76 #[.int .i64 op, .int .u32 a, .int .u32 b] w fun e w' => e = .returned (.tuple #[.int .u32 (rawR op a b), .int .u32 (rawF op a b), .bool (doK op b)]) ∧ w = w' := by
 rcases ho with rfl | rfl | rfl | rfl
 all_goals
  go_enter Tryd.func76, Tryd.ntmps76
  go_wp2
  go_ret3
  exact ⟨ret_three rfl rfl rfl, rfl⟩
set_option maxHeartbeats 400000 in
theorem raw_sh (op a b : Int) (w : World) (ho : op = 21 ∨ op = 22) (h0 : 0 ≤ a) (h1 : a < 4294967296) (h2 : 0 ≤ b) (h3 : b < 4294967296) :
    Calls Tryd.prog 76 #[.int .i64 op, .int .u32 a, .int .u32 b] w fun e w' => e = .returned (.tuple #[.int .u32 (rawR op a b), .int .u32 (rawF op a b), .bool (doK op b)]) ∧ w = w' := by
 by_cases hb : 32 ≤ b
 all_goals
  rcases ho with rfl | rfl
  all_goals
   generalize hR : rawR _ a b = R
   have HR := Lib.hid hR
   clear hR
   go_enter Tryd.func76, Tryd.ntmps76
   go_wp2
   go_ret3
   refine ⟨ret_three ?_ rfl rfl, rfl⟩
   rw [← HR.out]
   unfold rawR doR mvF
   simp
   omega
set_option maxHeartbeats 400000 in
theorem raw_24 (a b : Int) (w : World) (h0 : 0 ≤ a) (h1 : a < 4294967296) (h2 : 0 ≤ b) (h3 : b < 4294967296) :
    Calls Tryd.prog 76 #[.int .i64 24, .int .u32 a, .int .u32 b] w fun e w' => e = .returned (.tuple #[.int .u32 (rawR 24 a b), .int .u32 (rawF 24 a b), .bool (doK 24 b)]) ∧ w = w' := by
 by_cases hz : b = 0
 ·subst hz
  go_enter Tryd.func76, Tryd.ntmps76
  go_wp2
  go_ret3
  exact ⟨ret_three rfl rfl rfl, rfl⟩
 ·have hz' : (b != 0) = true := by simpa using hz
  have hR : rawR 24 a b = a / b := by unfold rawR doR; simp [hz]
  have hK : doK 24 b = true := by unfold doK; simp [hz]
  have HR := Lib.hid hR
  have HK := Lib.hid hK
  clear hR hK
  go_enter Tryd.func76, Tryd.ntmps76
  go_wp2
  go_ret3
  exact ⟨ret_three HR.out.symm rfl HK.out.symm, rfl⟩
set_option maxHeartbeats 400000 in
theorem raw_no (op a b : Int) (w : World) (h : op < 16 ∨ 25 < op) :
    Calls Tryd.prog 76 #[.int .i64 op, .int .u32 a, .int .u32 b] w fun e w' => e = .returned (.tuple #[.int .u32 (rawR op a b), .int .u32 (rawF op a b), .bool (doK op b)]) ∧ w = w' := by
 have hR : rawR op a b = 0 := by unfold rawR doR; repeat (first | rw [if_neg (by omega)])
 have hF : rawF op a b = 0 := by unfold rawF; repeat (first | rw [if_neg (by omega)])
 have hK : doK op b = false := by unfold doK; simp; omega
 have HR := Lib.hid hR
 have HF := Lib.hid hF
 have HK := Lib.hid hK
 clear hR hF hK
 rcases h with h | h
 all_goals
  go_enter Tryd.func76, Tryd.ntmps76
  go_wp2
  go_ret3
  exact ⟨ret_three HR.out.symm HF.out.symm HK.out.symm, rfl⟩
theorem raw_any (op a b : Int) (w : World) (h0 : 0 ≤ a) (h1 : a < 4294967296) (h2 : 0 ≤ b) (h3 : b < 4294967296) :
    Calls Tryd.prog 76 #[.int .i64 op, .int .u32 a, .int .u32 b] w fun e w' => e = .returned (.tuple #[.int .u32 (rawR op a b), .int .u32 (rawF op a b), .bool (doK op b)]) ∧ w = w' := by
 by_cases h : op < 16 ∨ 25 < op
 ·exact raw_no op a b w h
 ·rcases (by omega : op = 16 ∨ (op = 17 ∨ op = 25) ∨ (op = 18 ∨ op = 19 ∨ op = 20 ∨ op = 23) ∨ (op = 21 ∨ op = 22) ∨ op = 24) with rfl | ho | ho | ho | rfl
  ·exact raw_16 a b w h0 h1 h2 h3
  ·exact raw_17 op a b w ho h0 h1 h2 h3
  ·exact raw_mid op a b w ho h0 h1 h2 h3
  ·exact raw_sh op a b w ho h0 h1 h2 h3
  ·exact raw_24 a b w h0 h1 h2 h3

theorem tb31 (n : Nat) (h : n < 4294967296) : n.testBit 31 = decide (2147483648 ≤ n) := by
 rw [Nat.testBit_eq_decide_div_mod_eq, decide_eq_decide]; omega
theorem ov_bits (x y z : Nat) (hx : x < 4294967296) (hy : y < 4294967296) (hz : z < 4294967296) (u : Nat) (hu : u < 4294967296) :
    (bits BinOp.and IntKind.u32 (bits BinOp.and IntKind.u32 (bits BinOp.xor IntKind.u32 x y) (bits BinOp.xor IntKind.u32 z u)) 2147483648 != 0) =
     decide (¬ (x : Int) / 2147483648 = (y : Int) / 2147483648 ∧ ¬ (z : Int) / 2147483648 = (u : Int) / 2147483648) := by
 have h1 : x ^^^ y < 4294967296 := Nat.xor_lt_two_pow (n := 32) (by omega) (by omega)
 have h2 : z ^^^ u < 4294967296 := Nat.xor_lt_two_pow (n := 32) (by omega) (by omega)
 have h3 : (x ^^^ y) &&& (z ^^^ u) < 4294967296 := Nat.and_lt_two_pow (n := 32) _ (by omega)
 rw [u32_xor x y hx hy, u32_xor z u hz hu, u32_and _ _ h1 h2]
 have ht := tb31 ((x ^^^ y) &&& (z ^^^ u)) h3
 rw [Nat.testBit_and, Nat.testBit_xor, Nat.testBit_xor, tb31 x hx, tb31 y hy, tb31 z hz, tb31 u hu] at ht
 by_cases hc : 2147483648 ≤ (x ^^^ y) &&& (z ^^^ u)
 ·rw [top_yes (by omega) (by omega) (by omega)]
  simp only [hc, decide_true] at ht
  symm
  rw [decide_eq_true_eq]
  by_cases a1 : 2147483648 ≤ x <;> by_cases a2 : 2147483648 ≤ y <;> by_cases a3 : 2147483648 ≤ z <;> by_cases a4 : 2147483648 ≤ u <;> simp [a1, a2, a3, a4] at ht <;> omega
 ·rw [top_no (by omega) (by omega) (by omega)]
  simp only [hc, decide_false] at ht
  symm
  rw [decide_eq_false_iff_not]
  by_cases a1 : 2147483648 ≤ x <;> by_cases a2 : 2147483648 ≤ y <;> by_cases a3 : 2147483648 ≤ z <;> by_cases a4 : 2147483648 ≤ u <;> simp [a1, a2, a3, a4] at ht <;> omega
theorem ovs_eq (a b : Int) (h0 : 0 ≤ a) (h1 : a < 4294967296) (h2 : 0 ≤ b) (h3 : b < 4294967296) :
    ovs a b = decide (¬ a / 2147483648 = b / 2147483648 ∧ ¬ ((a - b) % 4294967296) / 2147483648 = a / 2147483648) := by
 obtain ⟨n, rfl⟩ := Int.eq_ofNat_of_zero_le h0
 obtain ⟨m, rfl⟩ := Int.eq_ofNat_of_zero_le h2
 have hr : 0 ≤ ((n : Int) - m) % 4294967296 := by omega
 unfold ovs
 generalize hq : ((n : Int) - m) % 4294967296 = q at *
 obtain ⟨r, rfl⟩ := Int.eq_ofNat_of_zero_le hr
 rw [ov_bits n m n (by omega) (by omega) (by omega) r (by omega), decide_eq_decide]
 omega
theorem ova_eq (a b : Int) (h0 : 0 ≤ a) (h1 : a < 4294967296) (h2 : 0 ≤ b) (h3 : b < 4294967296) :
    ova a b = decide (a / 2147483648 = b / 2147483648 ∧ ¬ ((a + b) % 4294967296) / 2147483648 = a / 2147483648) := by
 obtain ⟨n, rfl⟩ := Int.eq_ofNat_of_zero_le h0
 obtain ⟨m, rfl⟩ := Int.eq_ofNat_of_zero_le h2
 have hr : 0 ≤ ((n : Int) + m) % 4294967296 := by omega
 unfold ova
 generalize hq : ((n : Int) + m) % 4294967296 = q at *
 obtain ⟨r, rfl⟩ := Int.eq_ofNat_of_zero_le hr
 rw [ov_bits n r m (by omega) (by omega) (by omega) r (by omega), decide_eq_decide]
 omega
theorem more_eq (a b : Int) (h0 : 0 ≤ a) (h1 : a < 4294967296) (h2 : 0 ≤ b) (h3 : b < 4294967296) : moreF a b = rawF 16 a b + pf ((a + b) % 4294967296) := by
 unfold moreF rawF
 rw [ova_eq a b h0 h1 h2 h3, if_pos rfl]
 simp only [decide_eq_true_eq]
 by_cases h : (a + b) % 4294967296 < a
 ·rw [if_pos h, if_pos (by omega : 4294967296 ≤ a + b)]; omega
 ·rw [if_neg h, if_neg (by omega : ¬ 4294967296 ≤ a + b)]; omega
theorem less_eq (a b : Int) (h0 : 0 ≤ a) (h1 : a < 4294967296) (h2 : 0 ≤ b) (h3 : b < 4294967296) (op : Int) (ho : op = 17 ∨ op = 25) : lessF a b = rawF op a b + pf ((a - b) % 4294967296) := by
 unfold lessF rawF
 rw [ovs_eq a b h0 h1 h2 h3, if_neg (by omega : ¬ op = 16), if_pos ho]
 simp only [decide_eq_true_eq]
 omega
theorem raw_rng (op a b : Int) : rawF op a b = 0 ∨ rawF op a b = 4 ∨ rawF op a b = 8 ∨ rawF op a b = 12 := by
 unfold rawF
 split
 ·split <;> split <;> omega
 ·split
  ·split <;> split <;> omega
  ·omega
theorem doR_rng (op a b : Int) (h0 : 0 ≤ a) (h1 : a < 4294967296) (h2 : 0 ≤ b) (h3 : b < 4294967296) : 0 ≤ doR op a b ∧ doR op a b < 4294967296 := by
 unfold doR
 repeat' split
 all_goals first
  | exact and_rng a b h0 h1 h2 h3
  | exact or_rng a b h0 h1 h2 h3
  | exact xor_rng a b h0 h1 h2 h3
  | exact mv_rng a b _ h0 h1
  | exact div_rng a b h0 h1 h2
  | omega
theorem rawR_rng (op a b : Int) (h0 : 0 ≤ a) (h1 : a < 4294967296) (h2 : 0 ≤ b) (h3 : b < 4294967296) : 0 ≤ rawR op a b ∧ rawR op a b < 4294967296 := by
 unfold rawR
 split
 ·omega
 ·exact doR_rng op a b h0 h1 h2 h3
theorem flags_eq (op a b : Int) (h0 : 0 ≤ a) (h1 : a < 4294967296) (h2 : 0 ≤ b) (h3 : b < 4294967296) (hk : doK op b = true) : rawF op a b + pf (rawR op a b) = doF op a b := by
 have hk' : 16 ≤ op ∧ op ≤ 25 ∧ ¬ (op = 24 ∧ b = 0) := by unfold doK at hk; exact of_decide_eq_true hk
 by_cases e16 : op = 16
 ·subst e16
  have := more_eq a b h0 h1 h2 h3
  have e1 : rawR 16 a b = (a + b) % 4294967296 := rfl
  have e2 : doF 16 a b = moreF a b := rfl
  rw [e1, e2, this]
 ·by_cases e17 : op = 17
  ·subst e17
   have := less_eq a b h0 h1 h2 h3 17 (by omega)
   have e1 : rawR 17 a b = (a - b) % 4294967296 := rfl
   have e2 : doF 17 a b = lessF a b := rfl
   rw [e1, e2, this]
  ·by_cases e25 : op = 25
   ·subst e25
    have := less_eq a b h0 h1 h2 h3 25 (by omega)
    have e1 : rawR 25 a b = (a - b) % 4294967296 := rfl
    have e2 : doF 25 a b = lessF a b := rfl
    rw [e1, e2, this]
   ·have e0 : rawF op a b = 0 := by unfold rawF; rw [if_neg e16, if_neg (by omega)]
    have eR : rawR op a b = doR op a b := by unfold rawR; rw [if_neg e25]
    rw [e0, eR]
    unfold doF
    rw [if_neg e16, if_neg e17, if_neg e25]
    by_cases e24 : op = 24
    ·subst e24
     have hb : b ≠ 0 := fun h => hk'.2.2 ⟨rfl, h⟩
     rw [if_neg (by omega), if_pos rfl, if_neg hb]
     have : doR 24 a b = a / b := by unfold doR; simp [hb]
     rw [this]; omega
    ·rw [if_pos (by omega)]; omega

set_option maxHeartbeats 400000 in
theorem ref_any (op a b : Int) (w : World) (h0 : 0 ≤ a) (h1 : a < 4294967296) (h2 : 0 ≤ b) (h3 : b < 4294967296) :
    Calls Tryd.prog 56 #[.int .i64 op, .int .u32 a, .int .u32 b] w fun e w' => e = .returned (.tuple #[.int .u32 (doR op a b), .int .u32 (doF op a b), .bool (doK op b)]) ∧ w = w' := by
 have hk' := @flags_eq op a b h0 h1 h2 h3
 have hr := raw_rng op a b
 have hq := rawR_rng op a b h0 h1 h2 h3
 cases hk : doK op b
 ·have hR : doR op a b = 0 := by
    unfold doK at hk
    have := of_decide_eq_false hk
    unfold doR
    by_cases e : op = 24
    ·subst e; have : b = 0 := by omega
     subst this; rfl
    ·repeat (first | rw [if_neg (by omega)])
  have hF : doF op a b = 0 := by
   unfold doK at hk
   have := of_decide_eq_false hk
   unfold doF
   by_cases e : op = 24
   ·subst e; have : b = 0 := by omega
    subst this; rfl
   ·repeat (first | rw [if_neg (by omega)])
  have hc := raw_any op a b w h0 h1 h2 h3
  rw [hk] at hc
  have HC := Lib.hid hc
  have HR := Lib.hid hR
  have HF := Lib.hid hF
  clear hR hF hc hk hk' hr
  go_enter Tryd.func56, Tryd.ntmps56
  go_wp2_with (go_at_call 76; refine HC.out.mono ?_; rintro e w' ⟨rfl, rfl⟩)
  go_ret3
  exact ⟨ret_three HR.out.symm HF.out.symm rfl, rfl⟩
 ·have hf := hk' hk
  have hc := raw_any op a b w h0 h1 h2 h3
  have hR : doR op a b = if op = 25 then 0 else rawR op a b := by
   unfold rawR; split
   ·rename_i h; subst h; rfl
   ·rfl
  rw [hk] at hc
  have hp : pf (rawR op a b) = (if rawR op a b = 0 then 1 else 0) + (if 2147483648 ≤ rawR op a b then 2 else 0) := rfl
  generalize rawR op a b = R at *
  generalize rawF op a b = F at *
  have HC := Lib.hid hc
  have HR := Lib.hid hR
  have HF := Lib.hid hf
  have HP := Lib.hid hp
  have Hr := Lib.hid hr
  clear hR hf hc hk hk' hr hp
  go_enter Tryd.func56, Tryd.ntmps56
  go_wp2_with (go_at_call 76; refine HC.out.mono ?_; rintro e w' ⟨rfl, rfl⟩)
  all_goals
   go_ret3
   refine ⟨ret_three ?_ ?_ rfl, rfl⟩
   ·rw [HR.out]; simp only [beq_iff_eq, beq_eq_false_iff_ne, ne_eq] at *
    first
    | rw [if_pos (by assumption)]
    | rw [if_neg (by assumption)]
   ·rw [← HF.out, HP.out]
    simp only [beq_iff_eq, beq_eq_false_iff_ne, ne_eq] at *
    first
    | rw [if_pos (by assumption : R = 0), if_pos (by omega)]
    | rw [if_neg (by assumption : ¬ R = 0), if_pos (by omega)]
    | rw [if_pos (by assumption : R = 0), if_neg (by omega)]
    | rw [if_neg (by assumption : ¬ R = 0), if_neg (by omega)]
    rcases Hr.out with h | h | h | h <;> rw [h] <;> first | omega | decide
def hB (op f : Int) : Bool :=
 if op = 33 then bits BinOp.and IntKind.u32 f 1 != 0 else if op = 34 then bits BinOp.and IntKind.u32 f 1 == 0 else if op = 35 then bits BinOp.and IntKind.u32 f 4 != 0
 else if op = 36 then bits BinOp.and IntKind.u32 f 2 != 0 else if op = 37 then bits BinOp.and IntKind.u32 f 8 != 0 else false
def hK (op : Int) : Bool := decide (33 ≤ op ∧ op ≤ 37)
theorem ret_bb {u u' v v' : Bool} (h : u = u') (h' : v = v') : Ending.returned (.tuple #[.bool u, .bool v]) = .returned (.tuple #[.bool u', .bool v']) := by rw [h, h']
set_option maxHeartbeats 400000 in
theorem holds_any (op f : Int) (w : World) :
    Calls Tryd.prog 55 #[.int .i64 op, .int .u32 f] w fun e w' => e = .returned (.tuple #[.bool (hB op f), .bool (hK op)]) ∧ w = w' := by
 by_cases h : op < 33 ∨ 37 < op
 ·have h1 : hB op f = false := by unfold hB; repeat (first | rw [if_neg (by omega)])
  have h2 : hK op = false := by unfold hK; simp; omega
  have H1 := Lib.hid h1
  have H2 := Lib.hid h2
  clear h1 h2
  rcases h with h | h
  all_goals
   go_enter Tryd.func55, Tryd.ntmps55
   go_wp2
   go_ret2
   exact ⟨ret_bb H1.out.symm H2.out.symm, rfl⟩
 ·rcases (by omega : op = 33 ∨ op = 34 ∨ op = 35 ∨ op = 36 ∨ op = 37) with rfl | rfl | rfl | rfl | rfl
  all_goals
   go_enter Tryd.func55, Tryd.ntmps55
   go_wp2
   go_ret2
   exact ⟨ret_bb rfl rfl, rfl⟩
set_option maxHeartbeats 400000 in
theorem refholds_any (op f : Int) (w : World) :
    Calls Tryd.prog 57 #[.int .i64 op, .int .u32 f] w fun e w' => e = .returned (.tuple #[.bool (hB op f), .bool (hK op)]) ∧ w = w' := by
 by_cases h : op < 33 ∨ 37 < op
 ·have h1 : hB op f = false := by unfold hB; repeat (first | rw [if_neg (by omega)])
  have h2 : hK op = false := by unfold hK; simp; omega
  have H1 := Lib.hid h1
  have H2 := Lib.hid h2
  clear h1 h2
  rcases h with h | h
  all_goals
   go_enter Tryd.func57, Tryd.ntmps57
   go_wp2
   go_ret2
   exact ⟨ret_bb H1.out.symm H2.out.symm, rfl⟩
 ·rcases (by omega : op = 33 ∨ op = 34 ∨ op = 35 ∨ op = 36 ∨ op = 37) with rfl | rfl | rfl | rfl | rfl
  all_goals
   go_enter Tryd.func57, Tryd.ntmps57
   go_wp2
   go_ret2
   exact ⟨ret_bb rfl rfl, rfl⟩
set_option maxHeartbeats 400000 in
theorem ret_two {a a' : Int} {u u' : Bool} (h : a = a') (h'' : u = u') :
    Ending.returned (.tuple #[.int .u32 a, .bool u]) = .returned (.tuple #[.int .u32 a', .bool u']) := by rw [h, h'']
set_option maxHeartbeats 400000 in
theorem flags_any (op a b : Int) (w : World) (h0 : 0 ≤ a) (h1 : a < 4294967296) (h2 : 0 ≤ b) (h3 : b < 4294967296) :
    Calls Tryd.prog 53 #[.int .i64 op, .int .u32 a, .int .u32 b] w fun e w' => e = .returned (.tuple #[.int .u32 (doF op a b), .bool (doK op b)]) ∧ w = w' := by
 go_enter Tryd.func53, Tryd.ntmps53
 go_wp2_with (go_at_call 52; refine (do_any _ _ _ _ h0 h1 h2 h3).mono ?_; rintro e w' ⟨rfl, rfl⟩)
 go_ret2
 exact ⟨ret_two rfl rfl, rfl⟩
def sp52 : List Value → Option Value
 | [.int .i64 op, .int .u32 a, .int .u32 b] => bif (u32B a && u32B b) then some (.tuple #[.int .u32 (doR op a b), .int .u32 (doF op a b), .bool (doK op b)]) else none
 | _ => none
noncomputable def T2 : Tab := { T1 with orc := addOrc T1.orc 52 sp52 }
theorem ok_T2 [Bs] : ProgOk Tryd.prog T2 := ok_T1.add 52 sp52 fun args v h => by
 unfold sp52 at h
 split at h
 ·rename_i op a b
  cases hb : ((u32B a && u32B b))
  ·rw [hb] at h; cases h
  ·rw [hb] at h; cases h
   have hb := hb; simp only [u32B, Bool.and_eq_true, decide_eq_true_eq] at hb; obtain ⟨⟨h1, h2⟩, h3, h4⟩ := hb
   exact ⟨rfl, rfl, fun w _ => (do_any op a b w h1 h2 h3 h4).mono fun _ _ => quiet_eq⟩
 ·cases h
instance : OrcDat T2 := orcDat_add inferInstance 52 sp52 fun l v h => by
 unfold sp52 at h
 split at h
 ·rename_i op a b; cases hb : ((u32B a && u32B b)) <;> rw [hb] at h <;> cases h
  exact ⟨rfl, rfl⟩
 ·cases h
theorem orc52 (op : Int) (a : Int) (b : Int) (h : (u32B a && u32B b) = true) : sp52 [.int .i64 op, .int .u32 a, .int .u32 b] = some (.tuple #[.int .u32 (doR op a b), .int .u32 (doF op a b), .bool (doK op b)]) := by
 simp only [sp52, h, cond_true]
def sp53 : List Value → Option Value
 | [.int .i64 op, .int .u32 a, .int .u32 b] => bif (u32B a && u32B b) then some (.tuple #[.int .u32 (doF op a b), .bool (doK op b)]) else none
 | _ => none
noncomputable def T3 : Tab := { T2 with orc := addOrc T2.orc 53 sp53 }
theorem ok_T3 [Bs] : ProgOk Tryd.prog T3 := ok_T2.add 53 sp53 fun args v h => by
 unfold sp53 at h
 split at h
 ·rename_i op a b
  cases hb : ((u32B a && u32B b))
  ·rw [hb] at h; cases h
  ·rw [hb] at h; cases h
   have hb := hb; simp only [u32B, Bool.and_eq_true, decide_eq_true_eq] at hb; obtain ⟨⟨h1, h2⟩, h3, h4⟩ := hb
   exact ⟨rfl, rfl, fun w _ => (flags_any op a b w h1 h2 h3 h4).mono fun _ _ => quiet_eq⟩
 ·cases h
instance : OrcDat T3 := orcDat_add inferInstance 53 sp53 fun l v h => by
 unfold sp53 at h
 split at h
 ·rename_i op a b; cases hb : ((u32B a && u32B b)) <;> rw [hb] at h <;> cases h
  exact ⟨rfl, rfl⟩
 ·cases h
theorem orc53 (op : Int) (a : Int) (b : Int) (h : (u32B a && u32B b) = true) : sp53 [.int .i64 op, .int .u32 a, .int .u32 b] = some (.tuple #[.int .u32 (doF op a b), .bool (doK op b)]) := by
 simp only [sp53, h, cond_true]
def sp55 : List Value → Option Value
 | [.int .i64 op, .int .u32 f] => bif u32B f then some (.tuple #[.bool (hB op f), .bool (hK op)]) else none
 | _ => none
noncomputable def T4 : Tab := { T3 with orc := addOrc T3.orc 55 sp55 }
theorem ok_T4 [Bs] : ProgOk Tryd.prog T4 := ok_T3.add 55 sp55 fun args v h => by
 unfold sp55 at h
 split at h
 ·rename_i op f
  cases hb : (u32B f)
  ·rw [hb] at h; cases h
  ·rw [hb] at h; cases h
   have hb := hb; simp only [u32B, Bool.and_eq_true, decide_eq_true_eq] at hb; obtain ⟨h1, h2⟩ := hb
   exact ⟨rfl, rfl, fun w _ => (holds_any op f w).mono fun _ _ => quiet_eq⟩
 ·cases h
instance : OrcDat T4 := orcDat_add inferInstance 55 sp55 fun l v h => by
 unfold sp55 at h
 split at h
 ·rename_i op f; cases hb : (u32B f) <;> rw [hb] at h <;> cases h
  exact ⟨rfl, rfl⟩
 ·cases h
theorem orc55 (op : Int) (f : Int) (h : u32B f = true) : sp55 [.int .i64 op, .int .u32 f] = some (.tuple #[.bool (hB op f), .bool (hK op)]) := by
 simp only [sp55, h, cond_true]
def sp56 : List Value → Option Value
 | [.int .i64 op, .int .u32 a, .int .u32 b] => bif (u32B a && u32B b) then some (.tuple #[.int .u32 (doR op a b), .int .u32 (doF op a b), .bool (doK op b)]) else none
 | _ => none
noncomputable def T5 : Tab := { T4 with orc := addOrc T4.orc 56 sp56 }
theorem ok_T5 [Bs] : ProgOk Tryd.prog T5 := ok_T4.add 56 sp56 fun args v h => by
 unfold sp56 at h
 split at h
 ·rename_i op a b
  cases hb : ((u32B a && u32B b))
  ·rw [hb] at h; cases h
  ·rw [hb] at h; cases h
   have hb := hb; simp only [u32B, Bool.and_eq_true, decide_eq_true_eq] at hb; obtain ⟨⟨h1, h2⟩, h3, h4⟩ := hb
   exact ⟨rfl, rfl, fun w _ => (ref_any op a b w h1 h2 h3 h4).mono fun _ _ => quiet_eq⟩
 ·cases h
instance : OrcDat T5 := orcDat_add inferInstance 56 sp56 fun l v h => by
 unfold sp56 at h
 split at h
 ·rename_i op a b; cases hb : ((u32B a && u32B b)) <;> rw [hb] at h <;> cases h
  exact ⟨rfl, rfl⟩
 ·cases h
theorem orc56 (op : Int) (a : Int) (b : Int) (h : (u32B a && u32B b) = true) : sp56 [.int .i64 op, .int .u32 a, .int .u32 b] = some (.tuple #[.int .u32 (doR op a b), .int .u32 (doF op a b), .bool (doK op b)]) := by
 simp only [sp56, h, cond_true]
def sp57 : List Value → Option Value
 | [.int .i64 op, .int .u32 f] => bif u32B f then some (.tuple #[.bool (hB op f), .bool (hK op)]) else none
 | _ => none
noncomputable def T6 : Tab := { T5 with orc := addOrc T5.orc 57 sp57 }
theorem ok_T6 [Bs] : ProgOk Tryd.prog T6 := ok_T5.add 57 sp57 fun args v h => by
 unfold sp57 at h
 split at h
 ·rename_i op f
  cases hb : (u32B f)
  ·rw [hb] at h; cases h
  ·rw [hb] at h; cases h
   have hb := hb; simp only [u32B, Bool.and_eq_true, decide_eq_true_eq] at hb; obtain ⟨h1, h2⟩ := hb
   exact ⟨rfl, rfl, fun w _ => (refholds_any op f w).mono fun _ _ => quiet_eq⟩
 ·cases h
instance : OrcDat T6 := orcDat_add inferInstance 57 sp57 fun l v h => by
 unfold sp57 at h
 split at h
 ·rename_i op f; cases hb : (u32B f) <;> rw [hb] at h <;> cases h
  exact ⟨rfl, rfl⟩
 ·cases h
theorem orc57 (op : Int) (f : Int) (h : u32B f = true) : sp57 [.int .i64 op, .int .u32 f] = some (.tuple #[.bool (hB op f), .bool (hK op)]) := by
 simp only [sp57, h, cond_true]
end Ls
end Go.Proofs.YtgpphhdndmdlgaaDoor
