/- The walks of chapter 1's laws, the second half. No condition but that a word is one. -/
import Derived.Test.YtjdhdciijdpghaaZ
namespace Go.Proofs.Ytjdhdciijdpghaa
open Go.RowKit
set_option linter.unusedVariables false
set_option linter.unusedSimpArgs false

/-! ### plain: shifts -/
theorem up_up (a x y : Int) (hx : 0 ≤ x) (hy : 0 ≤ y) : doR 21 (doR 21 a x) y = doR 21 a (x + y) := by
  obtain ⟨n, rfl⟩ := Int.eq_ofNat_of_zero_le hx
  obtain ⟨m, rfl⟩ := Int.eq_ofNat_of_zero_le hy
  show mvF (mvF a n true) m true = mvF a (n + m) true
  have e1 : ((n : Int) + m).toNat = n + m := by omega
  have h32 : ∀ k : Nat, 32 ≤ k → a * 2 ^ k % 4294967296 = 0 := by
    intro k hk
    obtain ⟨j, rfl⟩ : ∃ j, k = 32 + j := ⟨k - 32, by omega⟩
    rw [Int.pow_add, show (2 : Int) ^ 32 = 4294967296 from by decide, ← Int.mul_assoc, Int.mul_comm a, Int.mul_assoc]
    exact Int.mul_emod_right _ _
  unfold mvF
  rw [e1]
  simp only [Int.toNat_natCast, if_true]
  by_cases h1 : (32 : Int) ≤ n
  · rw [if_pos h1, if_pos (by omega : (32 : Int) ≤ n + m)]; split <;> simp
  · rw [if_neg h1]
    by_cases h2 : (32 : Int) ≤ m
    · rw [if_pos h2, if_pos (by omega : (32 : Int) ≤ n + m)]
    · rw [if_neg h2]
      have e : a * 2 ^ n % 4294967296 * 2 ^ m % 4294967296 = a * 2 ^ (n + m) % 4294967296 := by
        rw [Int.pow_add, ← Int.mul_assoc, Int.mul_emod (a * 2 ^ n % 4294967296), Int.emod_emod_of_dvd _ (Int.dvd_refl _), ← Int.mul_emod]
      split
      · rw [e]; exact h32 _ (by omega)
      · exact e
theorem down_down (a x y : Int) (h0 : 0 ≤ a) (h1 : a < 4294967296) (hx : 0 ≤ x) (hy : 0 ≤ y) : doR 22 (doR 22 a x) y = doR 22 a (x + y) := by
  obtain ⟨n, rfl⟩ := Int.eq_ofNat_of_zero_le hx
  obtain ⟨m, rfl⟩ := Int.eq_ofNat_of_zero_le hy
  show mvF (mvF a n false) m false = mvF a (n + m) false
  have e1 : ((n : Int) + m).toNat = n + m := by omega
  have e : a / 2 ^ n / 2 ^ m = a / 2 ^ (n + m) := by
    rw [Int.pow_add, Int.ediv_ediv_of_nonneg (Int.le_of_lt (pow_pos' n))]
  have h32 : ∀ k : Nat, 32 ≤ k → a / 2 ^ k = 0 := by
    intro k hk
    refine Int.ediv_eq_zero_of_lt h0 ?_
    have : (2 : Int) ^ 32 ≤ 2 ^ k := by exact_mod_cast Nat.pow_le_pow_right (n := 2) (by decide) hk
    omega
  unfold mvF
  rw [e1]
  simp only [Int.toNat_natCast, Bool.false_eq_true, if_false]
  by_cases h1 : (32 : Int) ≤ n
  · rw [if_pos h1, if_pos (by omega : (32 : Int) ≤ n + m)]; split <;> simp
  · rw [if_neg h1]
    by_cases h2 : (32 : Int) ≤ m
    · rw [if_pos h2, if_pos (by omega : (32 : Int) ≤ n + m)]
    · rw [if_neg h2]
      split
      · rw [e]; exact h32 _ (by omega)
      · exact e
theorem far (a b : Int) (h : 32 ≤ b) : doR 21 a b = 0 ∧ doF 21 a b = 1 ∧ doK 21 b = true := by
  have e : doR 21 a b = 0 := by show mvF a b true = 0; unfold mvF; rw [if_pos h]
  refine ⟨e, ?_, by unfold doK; simp⟩
  show pf (doR 21 a b) = 1
  rw [e]; decide
theorem times_pow (a k : Int) (h0 : 0 ≤ k) (h1 : k < 32) : doR 23 a (2 ^ k.toNat % 4294967296) = doR 21 a k := by
  show a * (2 ^ k.toNat % 4294967296) % 4294967296 = mvF a k true
  unfold mvF
  rw [if_neg (by omega), if_pos rfl]
  simp [Int.mul_emod]

set_option maxHeartbeats 400000 in
theorem shifts_any (a b c : Int) (w : World) (h0 : 0 ≤ a) (h1 : a < 4294967296) (h2 : 0 ≤ b) (h3 : b < 4294967296) (h4 : 0 ≤ c) (h5 : c < 4294967296) :
    Calls Try.prog 4 #[.int .u32 a, .int .u32 b, .int .u32 c] w fun e w' => e = .returned (.bool true) ∧ w = w' := by
  have b1 := doR_rng 21 a (b % 40) h0 h1 (by omega) (by omega)
  have b2 := doR_rng 22 a (b % 40) h0 h1 (by omega) (by omega)
  have e1 := up_up a (b % 40) (c % 40) (by omega) (by omega)
  have e2 := down_down a (b % 40) (c % 40) h0 h1 (by omega) (by omega)
  obtain ⟨e3, e4, e5⟩ := far a (32 + b % 1000000) (by omega)
  have e6 := times_pow a (b % 32) (by omega) (by omega)
  go_enter Try.func4, Try.ntmps4
  go_wp2_with (first | (go_at_call 9; refine (do_any _ _ _ _ (by omega) (by omega) (by omega) (by omega)).mono ?_; rintro e w' ⟨rfl, rfl⟩) | (go_at_call 10; refine (known_any _).mono ?_; rintro e w' ⟨rfl, rfl⟩))
  go_ret
  exact ⟨ret_b rfl, rfl⟩

/-! ### plain: flags -/
theorem bit4 (z n c o : Bool) :
    (bits BinOp.and IntKind.u32 ((if z then 1 else 0) + (if n then 2 else 0) + (if c then 4 else 0) + (if o then 8 else 0)) 1 != 0) = z ∧
    (bits BinOp.and IntKind.u32 ((if z then 1 else 0) + (if n then 2 else 0) + (if c then 4 else 0) + (if o then 8 else 0)) 1 == 0) = !z ∧
    (bits BinOp.and IntKind.u32 ((if z then 1 else 0) + (if n then 2 else 0) + (if c then 4 else 0) + (if o then 8 else 0)) 2 != 0) = n ∧
    (bits BinOp.and IntKind.u32 ((if z then 1 else 0) + (if n then 2 else 0) + (if c then 4 else 0) + (if o then 8 else 0)) 4 != 0) = c ∧
    (bits BinOp.and IntKind.u32 ((if z then 1 else 0) + (if n then 2 else 0) + (if c then 4 else 0) + (if o then 8 else 0)) 8 != 0) = o := by
  cases z <;> cases n <;> cases c <;> cases o <;> decide
theorem pf_bits (r : Int) : pf r = (if decide (r = 0) = true then 1 else 0) + (if decide (2147483648 ≤ r) = true then 2 else 0) := by
  unfold pf; simp only [decide_eq_true_eq]
def rS (a b : Int) : Int := (a - b) % 4294967296
theorem less_bits (a b : Int) (h0 : 0 ≤ a) (h1 : a < 4294967296) (h2 : 0 ≤ b) (h3 : b < 4294967296) :
    lessF a b = (if decide (a = b) = true then 1 else 0) + (if decide (2147483648 ≤ rS a b) = true then 2 else 0) + (if decide (a < b) = true then 4 else 0) + (if ovs a b = true then 8 else 0) := by
  unfold lessF
  rw [pf_bits]
  have : decide ((a - b) % 4294967296 = 0) = decide (a = b) := by rw [decide_eq_decide]; omega
  rw [this]
  simp only [decide_eq_true_eq]
  rfl
/-- How two words stand, with a sign. -/
theorem signed (a b : Int) (h0 : 0 ≤ a) (h1 : a < 4294967296) (h2 : 0 ≤ b) (h3 : b < 4294967296) :
    (decide (2147483648 ≤ rS a b) != ovs a b) = decide (wrap32 a < wrap32 b) := by
  rw [ovs_eq a b h0 h1 h2 h3, Bool.eq_iff_iff, bne_iff_ne, Ne, decide_eq_decide, decide_eq_true_eq]
  unfold wrap32 rS
  omega
set_option maxHeartbeats 400000 in
theorem orders_any (a b : Int) (w : World) (h0 : 0 ≤ a) (h1 : a < 4294967296) (h2 : 0 ≤ b) (h3 : b < 4294967296) :
    Calls Try.prog 8 #[.int .u32 a, .int .u32 b] w fun e w' => e = .returned (.bool true) ∧ w = w' := by
  have hs := signed a b h0 h1 h2 h3
  have hb := bit4 (decide (a = b)) (decide (2147483648 ≤ rS a b)) (decide (a < b)) (ovs a b)
  rw [← less_bits a b h0 h1 h2 h3] at hb
  obtain ⟨b1, b2, b3, b4, b5⟩ := hb
  have q6 : doF 25 a b = doF 17 a b := rfl
  have q7 : doR 25 a b = 0 := rfl
  have q8 : doK 25 b = true := by unfold doK; simp
  have q9 : doK 17 b = true := by unfold doK; simp
  have e : (a == b) = decide (a = b) := rfl
  have q1 : hB 33 (doF 17 a b) = (a == b) := b1
  have q2 : ¬ hB 34 (doF 17 a b) = (a == b) := by
    intro h
    have h2 : hB 34 (doF 17 a b) = !decide (a = b) := b2
    rw [h, e] at h2
    cases decide (a = b) <;> simp at h2
  have q3 : hB 35 (doF 17 a b) = decide (a < b) := b4
  have q4 : (hB 36 (doF 17 a b) == hB 37 (doF 17 a b)) = !decide (wrap32 a < wrap32 b) := by
    have e4 : hB 36 (doF 17 a b) = decide (2147483648 ≤ rS a b) := b3
    have e5 : hB 37 (doF 17 a b) = ovs a b := b5
    rw [e4, e5, ← hs]
    cases decide (2147483648 ≤ rS a b) <;> cases ovs a b <;> rfl
  clear b1 b2 b3 b4 b5 hs e
  go_enter Try.func8, Try.ntmps8
  go_wp2_with (first | (go_at_call 9; refine (do_any _ _ _ _ (by omega) (by omega) (by omega) (by omega)).mono ?_; rintro e w' ⟨rfl, rfl⟩) | (go_at_call 10; refine (known_any _).mono ?_; rintro e w' ⟨rfl, rfl⟩) | (go_at_call 16; refine (flags_any _ _ _ _ h0 h1 h2 h3).mono ?_; rintro e w' ⟨rfl, rfl⟩) | (go_at_call 12; refine (holds_any _ _ _).mono ?_; rintro e w' ⟨rfl, rfl⟩))
  all_goals (go_ret; refine ⟨ret_b ?_, rfl⟩)
  all_goals simp_all

/-- The flags tell of the result. -/
theorem bit12 (z n : Bool) : bits BinOp.and IntKind.u32 ((if z then 1 else 0) + (if n then 2 else 0)) 12 = 0 := by
  cases z <;> cases n <;> decide
theorem ffacts (r F : Int) (c o : Bool) (h0 : 0 ≤ r) (h1 : r < 4294967296) (hF : F = pf r + (if c = true then 4 else 0) + (if o = true then 8 else 0)) :
    (bits BinOp.and IntKind.u32 F 1 != 0) = (r == 0) ∧ (bits BinOp.and IntKind.u32 F 2 != 0) = (r / 2147483648 == 1) ∧ F ≤ 15 ∧
      (bits BinOp.and IntKind.u32 F 4 != 0) = c ∧ (bits BinOp.and IntKind.u32 F 8 != 0) = o := by
  have hp := pf_rng r
  have h15 : F ≤ 15 := by rw [hF]; split <;> split <;> omega
  obtain ⟨b1, -, b3, b4, b5⟩ := bit4 (decide (r = 0)) (decide (2147483648 ≤ r)) c o
  rw [← pf_bits, ← hF] at b1 b3 b4 b5
  refine ⟨b1, b3.trans ?_, h15, b4, b5⟩
  rw [Bool.eq_iff_iff, decide_eq_true_eq, beq_iff_eq]; omega

set_option maxHeartbeats 400000 in
theorem aflags_24 (op a b : Int) (w : World) (hj : op % 4294967296 % 10 = 8) (h0 : 0 ≤ a) (h1 : a < 4294967296) (h2 : 0 ≤ b) (h3 : b < 4294967296) :
    Calls Try.prog 5 #[.int .i64 op, .int .u32 a, .int .u32 b] w fun e w' => e = .returned (.bool true) ∧ w = w' := by
  by_cases hz : b = 0
  · subst hz
    have e1 : doR 24 a 0 = 0 := rfl
    have e2 : doF 24 a 0 = 0 := rfl
    have e3 : doK 24 0 = false := rfl
    go_enter Try.func5, Try.ntmps5
    go_wp2_with (first | (go_at_call 9; refine (do_any _ _ _ _ (by omega) (by omega) (by omega) (by omega)).mono ?_; rintro e w' ⟨rfl, rfl⟩) | (go_at_call 10; refine (known_any _).mono ?_; rintro e w' ⟨rfl, rfl⟩))
    go_ret
    exact ⟨ret_b rfl, rfl⟩
  · have ek : doK 24 b = true := by unfold doK; simp; omega
    have er := doR_rng 24 a b h0 h1 h2 h3
    have eF : doF 24 a b = pf (doR 24 a b) := by unfold doF doR; simp [hz]
    have e6 : bits BinOp.and IntKind.u32 (doF 24 a b) 12 = 0 := by
      rw [eF, pf_bits]; exact bit12 _ _
    obtain ⟨t1, t2, t3, t4, t5⟩ := ffacts _ (doF 24 a b) false false er.1 er.2 (by rw [eF]; simp)
    clear eF t4 t5
    go_enter Try.func5, Try.ntmps5
    go_wp2_with (first | (go_at_call 9; refine (do_any _ _ _ _ (by omega) (by omega) (by omega) (by omega)).mono ?_; rintro e w' ⟨rfl, rfl⟩) | (go_at_call 10; refine (known_any _).mono ?_; rintro e w' ⟨rfl, rfl⟩))
    go_ret
    exact ⟨ret_b rfl, rfl⟩
set_option maxHeartbeats 400000 in
theorem aflags_25 (op a b : Int) (w : World) (hj : op % 4294967296 % 10 = 9) (h0 : 0 ≤ a) (h1 : a < 4294967296) (h2 : 0 ≤ b) (h3 : b < 4294967296) :
    Calls Try.prog 5 #[.int .i64 op, .int .u32 a, .int .u32 b] w fun e w' => e = .returned (.bool true) ∧ w = w' := by
  have e1 : doR 25 a b = 0 := rfl
  have ek : doK 25 b = true := by unfold doK; simp
  have eF : doF 25 a b < 16 := by
    show lessF a b < 16
    have := pf_rng ((a - b) % 4294967296)
    unfold lessF; split <;> split <;> omega
  go_enter Try.func5, Try.ntmps5
  go_wp2_with (first | (go_at_call 9; refine (do_any _ _ _ _ (by omega) (by omega) (by omega) (by omega)).mono ?_; rintro e w' ⟨rfl, rfl⟩) | (go_at_call 10; refine (known_any _).mono ?_; rintro e w' ⟨rfl, rfl⟩))
  go_ret
  exact ⟨ret_b rfl, rfl⟩
set_option maxHeartbeats 400000 in
theorem aflags_mid (op a b : Int) (w : World) (hj : 2 ≤ op % 4294967296 % 10 ∧ op % 4294967296 % 10 ≤ 7) (h0 : 0 ≤ a) (h1 : a < 4294967296) (h2 : 0 ≤ b) (h3 : b < 4294967296) :
    Calls Try.prog 5 #[.int .i64 op, .int .u32 a, .int .u32 b] w fun e w' => e = .returned (.bool true) ∧ w = w' := by
  have er := doR_rng (16 + op % 4294967296 % 10) a b h0 h1 h2 h3
  have ek : doK (16 + op % 4294967296 % 10) b = true := by unfold doK; rw [decide_eq_true_eq]; omega
  have eF : doF (16 + op % 4294967296 % 10) a b = pf (doR (16 + op % 4294967296 % 10) a b) := by
    unfold doF
    rw [if_neg (by omega), if_neg (by omega), if_neg (by omega), if_pos (by omega)]
  have e6 : bits BinOp.and IntKind.u32 (doF (16 + op % 4294967296 % 10) a b) 12 = 0 := by
    rw [eF, pf_bits]; exact bit12 _ _
  obtain ⟨t1, t2, t3, t4, t5⟩ := ffacts _ (doF (16 + op % 4294967296 % 10) a b) false false er.1 er.2 (by rw [eF]; simp)
  clear eF t4 t5
  go_enter Try.func5, Try.ntmps5
  go_wp2_with (first | (go_at_call 9; refine (do_any _ _ _ _ (by omega) (by omega) (by omega) (by omega)).mono ?_; rintro e w' ⟨rfl, rfl⟩) | (go_at_call 10; refine (known_any _).mono ?_; rintro e w' ⟨rfl, rfl⟩))
  go_ret
  exact ⟨ret_b rfl, rfl⟩
theorem signed_sum (a b : Int) (h0 : 0 ≤ a) (h1 : a < 4294967296) (h2 : 0 ≤ b) (h3 : b < 4294967296) :
    ova a b = (wrap64 (wrap64 (wrap32 a) + wrap64 (wrap32 b)) != wrap64 (wrap32 (doR 16 a b))) := by
  rw [ova_eq a b h0 h1 h2 h3, Bool.eq_iff_iff, bne_iff_ne, decide_eq_true_eq]
  show _ ↔ _ ≠ wrap64 (wrap32 ((a + b) % 4294967296))
  unfold wrap64 wrap32
  omega
theorem signed_dif (a b : Int) (h0 : 0 ≤ a) (h1 : a < 4294967296) (h2 : 0 ≤ b) (h3 : b < 4294967296) :
    ovs a b = (wrap64 (wrap64 (wrap32 a) - wrap64 (wrap32 b)) != wrap64 (wrap32 (doR 17 a b))) := by
  rw [ovs_eq a b h0 h1 h2 h3, Bool.eq_iff_iff, bne_iff_ne, decide_eq_true_eq]
  show _ ↔ _ ≠ wrap64 (wrap32 ((a - b) % 4294967296))
  unfold wrap64 wrap32
  omega
set_option maxHeartbeats 400000 in
theorem aflags_16 (op a b : Int) (w : World) (hj : op % 4294967296 % 10 = 0) (h0 : 0 ≤ a) (h1 : a < 4294967296) (h2 : 0 ≤ b) (h3 : b < 4294967296) :
    Calls Try.prog 5 #[.int .i64 op, .int .u32 a, .int .u32 b] w fun e w' => e = .returned (.bool true) ∧ w = w' := by
  have er := doR_rng 16 a b h0 h1 h2 h3
  have ek : doK 16 b = true := by unfold doK; simp
  have ec : decide ((a + b) % 4294967296 < a) = decide (4294967295 < a + b) := by rw [decide_eq_decide]; omega
  obtain ⟨t1, t2, t3, t4, t5⟩ := ffacts _ (doF 16 a b) (decide (4294967295 < a + b)) (ova a b) er.1 er.2 (by rw [← ec]; simp only [decide_eq_true_eq]; rfl)
  rw [signed_sum a b h0 h1 h2 h3] at t5
  clear ec
  go_enter Try.func5, Try.ntmps5
  go_wp2_with (first | (go_at_call 9; refine (do_any _ _ _ _ (by omega) (by omega) (by omega) (by omega)).mono ?_; rintro e w' ⟨rfl, rfl⟩) | (go_at_call 10; refine (known_any _).mono ?_; rintro e w' ⟨rfl, rfl⟩))
  go_ret
  exact ⟨ret_b rfl, rfl⟩
set_option maxHeartbeats 400000 in
theorem aflags_17 (op a b : Int) (w : World) (hj : op % 4294967296 % 10 = 1) (h0 : 0 ≤ a) (h1 : a < 4294967296) (h2 : 0 ≤ b) (h3 : b < 4294967296) :
    Calls Try.prog 5 #[.int .i64 op, .int .u32 a, .int .u32 b] w fun e w' => e = .returned (.bool true) ∧ w = w' := by
  have er := doR_rng 17 a b h0 h1 h2 h3
  have ek : doK 17 b = true := by unfold doK; simp
  obtain ⟨t1, t2, t3, t4, t5⟩ := ffacts _ (doF 17 a b) (decide (a < b)) (ovs a b) er.1 er.2 (by simp only [decide_eq_true_eq]; rfl)
  rw [signed_dif a b h0 h1 h2 h3] at t5
  go_enter Try.func5, Try.ntmps5
  go_wp2_with (first | (go_at_call 9; refine (do_any _ _ _ _ (by omega) (by omega) (by omega) (by omega)).mono ?_; rintro e w' ⟨rfl, rfl⟩) | (go_at_call 10; refine (known_any _).mono ?_; rintro e w' ⟨rfl, rfl⟩))
  go_ret
  exact ⟨ret_b rfl, rfl⟩
theorem aflags_any (op a b : Int) (w : World) (h0 : 0 ≤ a) (h1 : a < 4294967296) (h2 : 0 ≤ b) (h3 : b < 4294967296) :
    Calls Try.prog 5 #[.int .i64 op, .int .u32 a, .int .u32 b] w fun e w' => e = .returned (.bool true) ∧ w = w' := by
  rcases (by omega : op % 4294967296 % 10 = 0 ∨ op % 4294967296 % 10 = 1 ∨ (2 ≤ op % 4294967296 % 10 ∧ op % 4294967296 % 10 ≤ 7) ∨ op % 4294967296 % 10 = 8 ∨ op % 4294967296 % 10 = 9) with h | h | h | h | h
  · exact aflags_16 op a b w h h0 h1 h2 h3
  · exact aflags_17 op a b w h h0 h1 h2 h3
  · exact aflags_mid op a b w h h0 h1 h2 h3
  · exact aflags_24 op a b w h h0 h1 h2 h3
  · exact aflags_25 op a b w h h0 h1 h2 h3
end Go.Proofs.Ytjdhdciijdpghaa
