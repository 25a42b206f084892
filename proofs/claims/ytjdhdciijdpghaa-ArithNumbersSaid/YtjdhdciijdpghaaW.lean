/- Words of 32 bits, and the walks of arith's functions over them. No condition but that a word is one. -/
import Derived.Test.YtjdhdciijdpghaaRows
import Derived.WalkKit
import Derived.Lib.Hide
namespace Go.Proofs.Ytjdhdciijdpghaa
open Go.RowKit
set_option linter.unusedVariables false
set_option linter.unusedSimpArgs false

/-! ### plain facts on words -/
theorem ret_one {k : IntKind} {a b : Int} (h : a = b) : Ending.returned (.int k a) = .returned (.int k b) := by rw [h]

def pf (r : Int) : Int := (if r = 0 then 1 else 0) + (if 2147483648 ≤ r then 2 else 0)
theorem pf_rng (r : Int) : 0 ≤ pf r ∧ pf r ≤ 3 := by unfold pf; constructor <;> (split <;> split <;> omega)

theorem u32_and (a b : Nat) (ha : a < 4294967296) (hb : b < 4294967296) : bits .and .u32 a b = ((a &&& b : Nat) : Int) :=
  (bits_nat .u32 32 (by decide) (fun n h0 h1 => by rw [IntKind.wrap_u32]; omega) a b (by omega) (by omega)).1
theorem u32_or (a b : Nat) (ha : a < 4294967296) (hb : b < 4294967296) : bits .or .u32 a b = ((a ||| b : Nat) : Int) :=
  (bits_nat .u32 32 (by decide) (fun n h0 h1 => by rw [IntKind.wrap_u32]; omega) a b (by omega) (by omega)).2
theorem u32_xor (a b : Nat) (ha : a < 4294967296) (hb : b < 4294967296) : bits .xor .u32 a b = ((a ^^^ b : Nat) : Int) := by
  have hx : a ^^^ b < 2 ^ 32 := Nat.xor_lt_two_pow (by omega) (by omega)
  have h1 : (BitVec.ofInt 32 (a : Int)).toNat = a := by
    rw [BitVec.toNat_ofInt]; omega
  have h2 : (BitVec.ofInt 32 (b : Int)).toNat = b := by
    rw [BitVec.toNat_ofInt]; omega
  show IntKind.u32.wrap (((BitVec.ofInt 32 (a : Int)) ^^^ (BitVec.ofInt 32 (b : Int))).toNat : Int) = _
  rw [BitVec.toNat_xor, h1, h2, IntKind.wrap_u32]; omega

theorem top_nat (a : Nat) (ha : a < 4294967296) : a &&& 2147483648 = if 2147483648 ≤ a then 2147483648 else 0 := by
  have h2 : a / 2 ^ 31 = if 2147483648 ≤ a then 1 else 0 := by split <;> omega
  have h3 : ∀ i, Nat.testBit 2147483648 i = decide (31 = i) := fun i => Nat.testBit_two_pow (n := 31) (m := i)
  apply Nat.eq_of_testBit_eq
  intro i
  rw [Nat.testBit_and, h3]
  by_cases hi : 31 = i
  · subst hi
    rw [Nat.testBit_eq_decide_div_mod_eq, h2]
    split <;> simp [h3]
  · split <;> simp [hi, h3]
theorem top_and (r : Int) (h0 : 0 ≤ r) (h1 : r < 4294967296) : bits .and .u32 r 2147483648 = if 2147483648 ≤ r then 2147483648 else 0 := by
  obtain ⟨n, rfl⟩ := Int.eq_ofNat_of_zero_le h0
  have h := u32_and n 2147483648 (by omega) (by omega)
  rw [top_nat n (by omega)] at h
  refine h.trans ?_
  split <;> split <;> omega
theorem top_yes {r : Int} (h0 : 0 ≤ r) (h1 : r < 4294967296) (h : 2147483648 ≤ r) : (bits BinOp.and IntKind.u32 r 2147483648 != 0) = true := by
  rw [top_and r h0 h1, if_pos h]; rfl
theorem top_no {r : Int} (h0 : 0 ≤ r) (h1 : r < 4294967296) (h : r < 2147483648) : (bits BinOp.and IntKind.u32 r 2147483648 != 0) = false := by
  rw [top_and r h0 h1, if_neg (by omega)]; rfl
theorem or4 {f : Int} (h0 : 0 ≤ f) (h1 : f ≤ 3) : bits .or .u32 f 4 = f + 4 := by
  rcases (by omega : f = 0 ∨ f = 1 ∨ f = 2 ∨ f = 3) with rfl | rfl | rfl | rfl <;> decide
theorem or8 {f : Int} (h0 : 0 ≤ f) (h1 : f ≤ 7) : bits .or .u32 f 8 = f + 8 := by
  rcases (by omega : f = 0 ∨ f = 1 ∨ f = 2 ∨ f = 3 ∨ f = 4 ∨ f = 5 ∨ f = 6 ∨ f = 7) with rfl | rfl | rfl | rfl | rfl | rfl | rfl | rfl <;> decide

/-! ### the walks -/
theorem f_or1 : bits BinOp.or IntKind.u32 0 1 = 1 := by decide
theorem f_or2 : bits BinOp.or IntKind.u32 0 2 = 2 := by decide
theorem f_or3 : bits BinOp.or IntKind.u32 1 2 = 3 := by decide
set_option maxHeartbeats 400000 in
theorem plain_any (r : Int) (w : World) (h0 : 0 ≤ r) (h1 : r < 4294967296) :
    Calls Try.prog 20 #[.int .u32 r] w fun e w' => e = .returned (.int .u32 (pf r)) ∧ w = w' := by
  by_cases hz : r = 0
  · subst hz
    go_enter Try.func20, Try.ntmps20
    go_wp2
    go_ret
    exact ⟨rfl, rfl⟩
  · have hz' : (r == 0) = false := by simpa using hz
    by_cases ht : 2147483648 ≤ r
    · have hf : pf r = 2 := by unfold pf; rw [if_neg hz, if_pos ht]; rfl
      have htop := top_yes h0 h1 ht
      have Hf := Lib.hid hf
      clear hf hz
      go_enter Try.func20, Try.ntmps20
      go_wp2
      go_ret
      exact ⟨ret_one (by rw [Hf.out]; decide), rfl⟩
    · have hf : pf r = 0 := by unfold pf; rw [if_neg hz, if_neg ht]; rfl
      have htop := top_no h0 h1 (by omega)
      have Hf := Lib.hid hf
      clear hf hz
      go_enter Try.func20, Try.ntmps20
      go_wp2
      go_ret
      exact ⟨ret_one (by rw [Hf.out]), rfl⟩

/-- Overflow of a difference, of a sum. -/
def ovs (a b : Int) : Bool := bits BinOp.and IntKind.u32 (bits BinOp.and IntKind.u32 (bits BinOp.xor IntKind.u32 a b) (bits BinOp.xor IntKind.u32 a ((a - b) % 4294967296))) 2147483648 != 0
def ova (a b : Int) : Bool := bits BinOp.and IntKind.u32 (bits BinOp.and IntKind.u32 (bits BinOp.xor IntKind.u32 a ((a + b) % 4294967296)) (bits BinOp.xor IntKind.u32 b ((a + b) % 4294967296))) 2147483648 != 0
def lessF (a b : Int) : Int := pf ((a - b) % 4294967296) + (if a < b then 4 else 0) + (if ovs a b = true then 8 else 0)
def moreF (a b : Int) : Int := pf ((a + b) % 4294967296) + (if (a + b) % 4294967296 < a then 4 else 0) + (if ova a b = true then 8 else 0)

set_option maxHeartbeats 400000 in
theorem less_any (a b : Int) (w : World) (h0 : 0 ≤ a) (h1 : a < 4294967296) (h2 : 0 ≤ b) (h3 : b < 4294967296) :
    Calls Try.prog 18 #[.int .u32 a, .int .u32 b] w fun e w' => e = .returned (.int .u32 (lessF a b)) ∧ w = w' := by
  have hp := pf_rng ((a - b) % 4294967296)
  generalize hL : lessF a b = L
  have HL := Lib.hid hL
  clear hL
  go_enter Try.func18, Try.ntmps18
  go_wp2_with (go_at_call 20; refine (plain_any _ _ (by omega) (by omega)).mono ?_; rintro e w' ⟨rfl, rfl⟩)
  all_goals
    go_ret
    refine ⟨ret_one ?_, rfl⟩
    rw [← HL.out]
    unfold lessF
    first
    | (have ho : ovs a b = true := (by unfold ovs; assumption)
       rw [if_pos (by assumption : a < b), if_pos ho]
       exact (congrArg (fun z => bits .or .u32 z 8) (or4 hp.1 hp.2)).trans (or8 (by omega) (by omega)))
    | (have ho : ¬ ovs a b = true := (by unfold ovs; simp only [Bool.not_eq_true]; assumption)
       rw [if_pos (by assumption : a < b), if_neg ho]
       exact (or4 hp.1 hp.2).trans (by omega))
    | (have ho : ovs a b = true := (by unfold ovs; assumption)
       rw [if_neg (by omega : ¬ a < b), if_pos ho]
       exact (or8 hp.1 (by omega)).trans (by omega))
    | (have ho : ¬ ovs a b = true := (by unfold ovs; simp only [Bool.not_eq_true]; assumption)
       rw [if_neg (by omega : ¬ a < b), if_neg ho]
       exact (by simp))

set_option maxHeartbeats 400000 in
theorem more_any (a b : Int) (w : World) (h0 : 0 ≤ a) (h1 : a < 4294967296) (h2 : 0 ≤ b) (h3 : b < 4294967296) :
    Calls Try.prog 17 #[.int .u32 a, .int .u32 b] w fun e w' => e = .returned (.int .u32 (moreF a b)) ∧ w = w' := by
  have hp := pf_rng ((a + b) % 4294967296)
  generalize hL : moreF a b = L
  have HL := Lib.hid hL
  clear hL
  go_enter Try.func17, Try.ntmps17
  go_wp2_with (go_at_call 20; refine (plain_any _ _ (by omega) (by omega)).mono ?_; rintro e w' ⟨rfl, rfl⟩)
  all_goals
    go_ret
    refine ⟨ret_one ?_, rfl⟩
    rw [← HL.out]
    unfold moreF
    first
    | (have ho : ova a b = true := (by unfold ova; assumption)
       rw [if_pos (by assumption : (a + b) % 4294967296 < a), if_pos ho]
       exact (congrArg (fun z => bits .or .u32 z 8) (or4 hp.1 hp.2)).trans (or8 (by omega) (by omega)))
    | (have ho : ¬ ova a b = true := (by unfold ova; simp only [Bool.not_eq_true]; assumption)
       rw [if_pos (by assumption : (a + b) % 4294967296 < a), if_neg ho]
       exact (or4 hp.1 hp.2).trans (by omega))
    | (have ho : ova a b = true := (by unfold ova; assumption)
       rw [if_neg (by omega : ¬ (a + b) % 4294967296 < a), if_pos ho]
       exact (or8 hp.1 (by omega)).trans (by omega))
    | (have ho : ¬ ova a b = true := (by unfold ova; simp only [Bool.not_eq_true]; assumption)
       rw [if_neg (by omega : ¬ (a + b) % 4294967296 < a), if_neg ho]
       exact (by simp))

def mvF (a b : Int) (u : Bool) : Int := if 32 ≤ b then 0 else if u = true then a * 2 ^ b.toNat % 4294967296 else a / 2 ^ b.toNat
set_option maxHeartbeats 400000 in
theorem moved_any (a b : Int) (u : Bool) (w : World) (h0 : 0 ≤ a) (h1 : a < 4294967296)  (h2 : 0 ≤ b) (h3 : b < 4294967296) :
    Calls Try.prog 19 #[.int .u32 a, .int .u32 b, .bool u] w fun e w' => e = .returned (.int .u32 (mvF a b u)) ∧ w = w' := by
  generalize hL : mvF a b u = L
  have HL := Lib.hid hL
  clear hL
  go_enter Try.func19, Try.ntmps19
  go_wp2
  all_goals
    go_ret
    refine ⟨ret_one ?_, rfl⟩
    rw [← HL.out]
    unfold mvF
    first
    | (rw [if_pos (by assumption : 32 ≤ b)]; done)
    | (rw [if_neg (by omega : ¬ 32 ≤ b), if_pos (by assumption : u = true)]; done)
    | (have hu : u = false := by assumption
       subst hu
       rw [if_neg (by omega : ¬ 32 ≤ b), if_neg (by decide)]; done)

/-- What arith.Do makes: the word, the flags, whether it may be. -/
def doR (op a b : Int) : Int :=
  if op = 16 then (a + b) % 4294967296 else if op = 17 then (a - b) % 4294967296 else if op = 18 then bits .and .u32 a b else if op = 19 then bits .or .u32 a b
  else if op = 20 then bits .xor .u32 a b else if op = 21 then mvF a b true else if op = 22 then mvF a b false else if op = 23 then a * b % 4294967296
  else if op = 24 then (if b = 0 then 0 else a / b) else 0
def doF (op a b : Int) : Int :=
  if op = 16 then moreF a b else if op = 17 then lessF a b else if op = 25 then lessF a b
  else if 18 ≤ op ∧ op ≤ 23 then pf (doR op a b) else if op = 24 then (if b = 0 then 0 else pf (a / b)) else 0
def doK (op b : Int) : Bool := decide (16 ≤ op ∧ op ≤ 25 ∧ ¬ (op = 24 ∧ b = 0))

theorem ret_three {a a' b b' : Int} {u u' : Bool} (h : a = a') (h' : b = b') (h'' : u = u') :
    Ending.returned (.tuple #[.int .u32 a, .int .u32 b, .bool u]) = .returned (.tuple #[.int .u32 a', .int .u32 b', .bool u']) := by rw [h, h', h'']

set_option maxHeartbeats 400000 in
theorem do_16 (a b : Int) (w : World) (h0 : 0 ≤ a) (h1 : a < 4294967296) (h2 : 0 ≤ b) (h3 : b < 4294967296) :
    Calls Try.prog 9 #[.int .i64 16, .int .u32 a, .int .u32 b] w fun e w' => e = .returned (.tuple #[.int .u32 (doR 16 a b), .int .u32 (doF 16 a b), .bool (doK 16 b)]) ∧ w = w' := by
  go_enter Try.func9, Try.ntmps9
  go_wp2_with (first | (go_at_call 17; refine (more_any _ _ _ (by omega) (by omega) (by omega) (by omega)).mono ?_; rintro e w' ⟨rfl, rfl⟩) | (go_at_call 18; refine (less_any _ _ _ (by omega) (by omega) (by omega) (by omega)).mono ?_; rintro e w' ⟨rfl, rfl⟩))
  go_ret3
  exact ⟨ret_three rfl rfl rfl, rfl⟩
set_option maxHeartbeats 400000 in
theorem do_17 (a b : Int) (w : World) (h0 : 0 ≤ a) (h1 : a < 4294967296) (h2 : 0 ≤ b) (h3 : b < 4294967296) :
    Calls Try.prog 9 #[.int .i64 17, .int .u32 a, .int .u32 b] w fun e w' => e = .returned (.tuple #[.int .u32 (doR 17 a b), .int .u32 (doF 17 a b), .bool (doK 17 b)]) ∧ w = w' := by
  go_enter Try.func9, Try.ntmps9
  go_wp2_with (first | (go_at_call 17; refine (more_any _ _ _ (by omega) (by omega) (by omega) (by omega)).mono ?_; rintro e w' ⟨rfl, rfl⟩) | (go_at_call 18; refine (less_any _ _ _ (by omega) (by omega) (by omega) (by omega)).mono ?_; rintro e w' ⟨rfl, rfl⟩))
  go_ret3
  exact ⟨ret_three rfl rfl rfl, rfl⟩
set_option maxHeartbeats 400000 in
theorem do_25 (a b : Int) (w : World) (h0 : 0 ≤ a) (h1 : a < 4294967296) (h2 : 0 ≤ b) (h3 : b < 4294967296) :
    Calls Try.prog 9 #[.int .i64 25, .int .u32 a, .int .u32 b] w fun e w' => e = .returned (.tuple #[.int .u32 (doR 25 a b), .int .u32 (doF 25 a b), .bool (doK 25 b)]) ∧ w = w' := by
  go_enter Try.func9, Try.ntmps9
  go_wp2_with (first | (go_at_call 17; refine (more_any _ _ _ (by omega) (by omega) (by omega) (by omega)).mono ?_; rintro e w' ⟨rfl, rfl⟩) | (go_at_call 18; refine (less_any _ _ _ (by omega) (by omega) (by omega) (by omega)).mono ?_; rintro e w' ⟨rfl, rfl⟩))
  go_ret3
  exact ⟨ret_three rfl rfl rfl, rfl⟩
theorem and_rng (a b : Int) (h0 : 0 ≤ a) (h1 : a < 4294967296) (h2 : 0 ≤ b) (h3 : b < 4294967296) : 0 ≤ bits .and .u32 a b ∧ bits .and .u32 a b < 4294967296 := by
  obtain ⟨n, rfl⟩ := Int.eq_ofNat_of_zero_le h0
  obtain ⟨m, rfl⟩ := Int.eq_ofNat_of_zero_le h2
  rw [u32_and n m (by omega) (by omega)]
  have := Nat.and_lt_two_pow n (y := m) (n := 32) (by omega)
  omega
theorem or_rng (a b : Int) (h0 : 0 ≤ a) (h1 : a < 4294967296) (h2 : 0 ≤ b) (h3 : b < 4294967296) : 0 ≤ bits .or .u32 a b ∧ bits .or .u32 a b < 4294967296 := by
  obtain ⟨n, rfl⟩ := Int.eq_ofNat_of_zero_le h0
  obtain ⟨m, rfl⟩ := Int.eq_ofNat_of_zero_le h2
  rw [u32_or n m (by omega) (by omega)]
  have := Nat.or_lt_two_pow (x := n) (y := m) (n := 32) (by omega) (by omega)
  omega
theorem xor_rng (a b : Int) (h0 : 0 ≤ a) (h1 : a < 4294967296) (h2 : 0 ≤ b) (h3 : b < 4294967296) : 0 ≤ bits .xor .u32 a b ∧ bits .xor .u32 a b < 4294967296 := by
  obtain ⟨n, rfl⟩ := Int.eq_ofNat_of_zero_le h0
  obtain ⟨m, rfl⟩ := Int.eq_ofNat_of_zero_le h2
  rw [u32_xor n m (by omega) (by omega)]
  have := Nat.xor_lt_two_pow (x := n) (y := m) (n := 32) (by omega) (by omega)
  omega
theorem div_rng (a b : Int) (h0 : 0 ≤ a) (h1 : a < 4294967296) (h2 : 0 ≤ b) : 0 ≤ a / b ∧ a / b < 4294967296 := by
  refine ⟨Int.ediv_nonneg h0 h2, ?_⟩
  have := Int.ediv_le_self b h0
  omega
theorem pow_pos' (n : Nat) : (0 : Int) < 2 ^ n := Int.pow_pos (by decide)
theorem mv_rng (a b : Int) (u : Bool) (h0 : 0 ≤ a) (h1 : a < 4294967296) : 0 ≤ mvF a b u ∧ mvF a b u < 4294967296 := by
  unfold mvF
  split
  · omega
  · split
    · omega
    · exact div_rng a _ h0 h1 (Int.le_of_lt (pow_pos' _))
set_option maxHeartbeats 400000 in
theorem do_18 (a b : Int) (w : World) (h0 : 0 ≤ a) (h1 : a < 4294967296) (h2 : 0 ≤ b) (h3 : b < 4294967296) :
    Calls Try.prog 9 #[.int .i64 18, .int .u32 a, .int .u32 b] w fun e w' => e = .returned (.tuple #[.int .u32 (doR 18 a b), .int .u32 (doF 18 a b), .bool (doK 18 b)]) ∧ w = w' := by
  have hb := and_rng a b h0 h1 h2 h3
  go_enter Try.func9, Try.ntmps9
  go_wp2_with (first | (go_at_call 20; refine (plain_any _ _ hb.1 hb.2).mono ?_; rintro e w' ⟨rfl, rfl⟩) | (go_at_call 19; refine (moved_any _ _ _ _ (by omega) (by omega) (by omega) (by omega)).mono ?_; rintro e w' ⟨rfl, rfl⟩))
  go_ret3
  exact ⟨ret_three rfl rfl rfl, rfl⟩
set_option maxHeartbeats 400000 in
theorem do_19 (a b : Int) (w : World) (h0 : 0 ≤ a) (h1 : a < 4294967296) (h2 : 0 ≤ b) (h3 : b < 4294967296) :
    Calls Try.prog 9 #[.int .i64 19, .int .u32 a, .int .u32 b] w fun e w' => e = .returned (.tuple #[.int .u32 (doR 19 a b), .int .u32 (doF 19 a b), .bool (doK 19 b)]) ∧ w = w' := by
  have hb := or_rng a b h0 h1 h2 h3
  go_enter Try.func9, Try.ntmps9
  go_wp2_with (first | (go_at_call 20; refine (plain_any _ _ hb.1 hb.2).mono ?_; rintro e w' ⟨rfl, rfl⟩) | (go_at_call 19; refine (moved_any _ _ _ _ (by omega) (by omega) (by omega) (by omega)).mono ?_; rintro e w' ⟨rfl, rfl⟩))
  go_ret3
  exact ⟨ret_three rfl rfl rfl, rfl⟩
set_option maxHeartbeats 400000 in
theorem do_20 (a b : Int) (w : World) (h0 : 0 ≤ a) (h1 : a < 4294967296) (h2 : 0 ≤ b) (h3 : b < 4294967296) :
    Calls Try.prog 9 #[.int .i64 20, .int .u32 a, .int .u32 b] w fun e w' => e = .returned (.tuple #[.int .u32 (doR 20 a b), .int .u32 (doF 20 a b), .bool (doK 20 b)]) ∧ w = w' := by
  have hb := xor_rng a b h0 h1 h2 h3
  go_enter Try.func9, Try.ntmps9
  go_wp2_with (first | (go_at_call 20; refine (plain_any _ _ hb.1 hb.2).mono ?_; rintro e w' ⟨rfl, rfl⟩) | (go_at_call 19; refine (moved_any _ _ _ _ (by omega) (by omega) (by omega) (by omega)).mono ?_; rintro e w' ⟨rfl, rfl⟩))
  go_ret3
  exact ⟨ret_three rfl rfl rfl, rfl⟩
set_option maxHeartbeats 400000 in
theorem do_21 (a b : Int) (w : World) (h0 : 0 ≤ a) (h1 : a < 4294967296) (h2 : 0 ≤ b) (h3 : b < 4294967296) :
    Calls Try.prog 9 #[.int .i64 21, .int .u32 a, .int .u32 b] w fun e w' => e = .returned (.tuple #[.int .u32 (doR 21 a b), .int .u32 (doF 21 a b), .bool (doK 21 b)]) ∧ w = w' := by
  have hb := mv_rng a b true h0 h1
  go_enter Try.func9, Try.ntmps9
  go_wp2_with (first | (go_at_call 20; refine (plain_any _ _ hb.1 hb.2).mono ?_; rintro e w' ⟨rfl, rfl⟩) | (go_at_call 19; refine (moved_any _ _ _ _ (by omega) (by omega) (by omega) (by omega)).mono ?_; rintro e w' ⟨rfl, rfl⟩))
  go_ret3
  exact ⟨ret_three rfl rfl rfl, rfl⟩
set_option maxHeartbeats 400000 in
theorem do_22 (a b : Int) (w : World) (h0 : 0 ≤ a) (h1 : a < 4294967296) (h2 : 0 ≤ b) (h3 : b < 4294967296) :
    Calls Try.prog 9 #[.int .i64 22, .int .u32 a, .int .u32 b] w fun e w' => e = .returned (.tuple #[.int .u32 (doR 22 a b), .int .u32 (doF 22 a b), .bool (doK 22 b)]) ∧ w = w' := by
  have hb := mv_rng a b false h0 h1
  go_enter Try.func9, Try.ntmps9
  go_wp2_with (first | (go_at_call 20; refine (plain_any _ _ hb.1 hb.2).mono ?_; rintro e w' ⟨rfl, rfl⟩) | (go_at_call 19; refine (moved_any _ _ _ _ (by omega) (by omega) (by omega) (by omega)).mono ?_; rintro e w' ⟨rfl, rfl⟩))
  go_ret3
  exact ⟨ret_three rfl rfl rfl, rfl⟩
set_option maxHeartbeats 400000 in
theorem do_23 (a b : Int) (w : World) (h0 : 0 ≤ a) (h1 : a < 4294967296) (h2 : 0 ≤ b) (h3 : b < 4294967296) :
    Calls Try.prog 9 #[.int .i64 23, .int .u32 a, .int .u32 b] w fun e w' => e = .returned (.tuple #[.int .u32 (doR 23 a b), .int .u32 (doF 23 a b), .bool (doK 23 b)]) ∧ w = w' := by
  have hb := (by omega : 0 ≤ a * b % 4294967296 ∧ a * b % 4294967296 < 4294967296)
  go_enter Try.func9, Try.ntmps9
  go_wp2_with (first | (go_at_call 20; refine (plain_any _ _ hb.1 hb.2).mono ?_; rintro e w' ⟨rfl, rfl⟩) | (go_at_call 19; refine (moved_any _ _ _ _ (by omega) (by omega) (by omega) (by omega)).mono ?_; rintro e w' ⟨rfl, rfl⟩))
  go_ret3
  exact ⟨ret_three rfl rfl rfl, rfl⟩
set_option maxHeartbeats 400000 in
theorem do_24 (a b : Int) (w : World) (h0 : 0 ≤ a) (h1 : a < 4294967296) (h2 : 0 ≤ b) (h3 : b < 4294967296) :
    Calls Try.prog 9 #[.int .i64 24, .int .u32 a, .int .u32 b] w fun e w' => e = .returned (.tuple #[.int .u32 (doR 24 a b), .int .u32 (doF 24 a b), .bool (doK 24 b)]) ∧ w = w' := by
  by_cases hz : b = 0
  · subst hz
    go_enter Try.func9, Try.ntmps9
    go_wp2
    go_ret3
    exact ⟨ret_three rfl rfl rfl, rfl⟩
  · have hb := div_rng a b h0 h1 h2
    have hz' : (b == 0) = false := by simpa using hz
    have hR : doR 24 a b = a / b := by unfold doR; simp [hz]
    have hF : doF 24 a b = pf (a / b) := by unfold doF; simp [hz]
    have hK : doK 24 b = true := by unfold doK; simp [hz]
    have HR := Lib.hid hR
    have HF := Lib.hid hF
    have HK := Lib.hid hK
    clear hR hF hK
    go_enter Try.func9, Try.ntmps9
    go_wp2_with (first | (go_at_call 20; refine (plain_any _ _ hb.1 hb.2).mono ?_; rintro e w' ⟨rfl, rfl⟩) | (go_at_call 19; refine (moved_any _ _ _ _ (by omega) (by omega) (by omega) (by omega)).mono ?_; rintro e w' ⟨rfl, rfl⟩))
    go_ret3
    exact ⟨ret_three HR.out.symm HF.out.symm HK.out.symm, rfl⟩
set_option maxHeartbeats 400000 in
theorem do_no (op a b : Int) (w : World) (h : op < 16 ∨ 25 < op) :
    Calls Try.prog 9 #[.int .i64 op, .int .u32 a, .int .u32 b] w fun e w' => e = .returned (.tuple #[.int .u32 (doR op a b), .int .u32 (doF op a b), .bool (doK op b)]) ∧ w = w' := by
  have hR : doR op a b = 0 := by unfold doR; repeat (first | rw [if_neg (by omega)])
  have hF : doF op a b = 0 := by unfold doF; repeat (first | rw [if_neg (by omega)])
  have hK : doK op b = false := by unfold doK; simp; omega
  have HR := Lib.hid hR
  have HF := Lib.hid hF
  have HK := Lib.hid hK
  clear hR hF hK
  rcases h with h | h
  all_goals
    go_enter Try.func9, Try.ntmps9
    go_wp2
    go_ret3
    exact ⟨ret_three HR.out.symm HF.out.symm HK.out.symm, rfl⟩
theorem do_any (op a b : Int) (w : World) (h0 : 0 ≤ a) (h1 : a < 4294967296) (h2 : 0 ≤ b) (h3 : b < 4294967296) :
    Calls Try.prog 9 #[.int .i64 op, .int .u32 a, .int .u32 b] w fun e w' => e = .returned (.tuple #[.int .u32 (doR op a b), .int .u32 (doF op a b), .bool (doK op b)]) ∧ w = w' := by
  by_cases h : op < 16 ∨ 25 < op
  · exact do_no op a b w h
  · rcases (by omega : op = 16 ∨ op = 17 ∨ op = 18 ∨ op = 19 ∨ op = 20 ∨ op = 21 ∨ op = 22 ∨ op = 23 ∨ op = 24 ∨ op = 25) with rfl | rfl | rfl | rfl | rfl | rfl | rfl | rfl | rfl | rfl
    · exact do_16 a b w h0 h1 h2 h3
    · exact do_17 a b w h0 h1 h2 h3
    · exact do_18 a b w h0 h1 h2 h3
    · exact do_19 a b w h0 h1 h2 h3
    · exact do_20 a b w h0 h1 h2 h3
    · exact do_21 a b w h0 h1 h2 h3
    · exact do_22 a b w h0 h1 h2 h3
    · exact do_23 a b w h0 h1 h2 h3
    · exact do_24 a b w h0 h1 h2 h3
    · exact do_25 a b w h0 h1 h2 h3
end Go.Proofs.Ytjdhdciijdpghaa
