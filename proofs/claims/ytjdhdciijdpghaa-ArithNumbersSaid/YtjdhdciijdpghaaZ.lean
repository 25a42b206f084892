/- The walks of chapter 1's laws. No condition but that a word is one. -/
import Derived.Test.YtjdhdciijdpghaaY
namespace Go.Proofs.Ytjdhdciijdpghaa
open Go.RowKit
set_option linter.unusedVariables false
set_option linter.unusedSimpArgs false
set_option maxHeartbeats 400000 in
theorem tells_any (op a b f : Int) (w : World) (h0 : 0 ≤ a) (h1 : a < 4294967296) (h2 : 0 ≤ b) (h3 : b < 4294967296) :
    Calls Try.prog 7 #[.int .i64 op, .int .u32 a, .int .u32 b, .int .u32 f] w fun e w' => e = .returned (.bool true) ∧ w = w' := by
  go_enter Try.func7, Try.ntmps7
  go_wp2_with (first | (go_at_call 12; refine (holds_any _ _ _).mono ?_; rintro e w' ⟨rfl, rfl⟩) | (go_at_call 13; refine (refholds_any _ _ _).mono ?_; rintro e w' ⟨rfl, rfl⟩) | (go_at_call 11; refine (same_any _ _ _ _ h0 h1 h2 h3).mono ?_; rintro e w' ⟨rfl, rfl⟩) | (go_at_call 14; refine (sign_any _ _ h0 h1).mono ?_; rintro e w' ⟨rfl, rfl⟩) | (go_at_call 15; refine (refsign_any _ _ h0 h1).mono ?_; rintro e w' ⟨rfl, rfl⟩) | (go_at_call 10; refine (known_any _).mono ?_; rintro e w' ⟨rfl, rfl⟩))
  go_ret
  exact ⟨ret_b rfl, rfl⟩
/-! ### plain: what is added is taken away; and, or, xor fit together -/
theorem bit_le (a : Nat) : a % 2 = 0 ∨ a % 2 = 1 := by omega
theorem and_or_sum (n : Nat) : ∀ a b : Nat, a ≤ n → (a &&& b) + (a ||| b) = a + b ∧ (a ^^^ b) + (a &&& b) = (a ||| b) := by
  induction n with
  | zero => intro a b h; obtain rfl : a = 0 := by omega
            simp
  | succ n ih =>
    intro a b h
    have hi := ih (a / 2) (b / 2) (by omega)
    rw [← Nat.and_div_two, ← Nat.or_div_two, ← Nat.xor_div_two] at hi
    have h1 := @Nat.and_mod_two_eq_one a b
    have h2 := @Nat.or_mod_two_eq_one a b
    have h3 := @Nat.xor_mod_two_eq_one a b
    generalize a &&& b = x at *
    generalize a ||| b = y at *
    generalize a ^^^ b = z at *
    rcases bit_le a with ha | ha <;> rcases bit_le b with hb | hb <;> simp only [ha, hb] at h1 h2 h3 <;> simp at h1 h2 h3 <;> omega
theorem fit_and_or (a b : Int) (h0 : 0 ≤ a) (h1 : a < 4294967296) (h2 : 0 ≤ b) (h3 : b < 4294967296) :
    doR 18 a b + doR 19 a b = a + b ∧ doR 20 a b = doR 19 a b - doR 18 a b := by
  obtain ⟨n, rfl⟩ := Int.eq_ofNat_of_zero_le h0
  obtain ⟨m, rfl⟩ := Int.eq_ofNat_of_zero_le h2
  have h := and_or_sum n n m (Nat.le_refl _)
  have e1 : doR 18 (n : Int) m = ((n &&& m : Nat) : Int) := u32_and n m (by omega) (by omega)
  have e2 : doR 19 (n : Int) m = ((n ||| m : Nat) : Int) := u32_or n m (by omega) (by omega)
  have e3 : doR 20 (n : Int) m = ((n ^^^ m : Nat) : Int) := u32_xor n m (by omega) (by omega)
  rw [e1, e2, e3]
  omega
theorem back_add (a b : Int) (h0 : 0 ≤ a) (h1 : a < 4294967296) : doR 17 (doR 16 a b) b = a := by
  show ((a + b) % 4294967296 - b) % 4294967296 = a
  omega
theorem fit_sum (a b : Int) (h0 : 0 ≤ a) (h1 : a < 4294967296) (h2 : 0 ≤ b) (h3 : b < 4294967296) : doR 16 (doR 18 a b) (doR 19 a b) = doR 16 a b := by
  show (doR 18 a b + doR 19 a b) % 4294967296 = (a + b) % 4294967296
  rw [(fit_and_or a b h0 h1 h2 h3).1]
theorem fit_xor (a b : Int) (h0 : 0 ≤ a) (h1 : a < 4294967296) (h2 : 0 ≤ b) (h3 : b < 4294967296) : (doR 20 a b != (doR 19 a b - doR 18 a b) % 4294967296) = false := by
  have h := (fit_and_or a b h0 h1 h2 h3).2
  have b5 := doR_rng 20 a b h0 h1 h2 h3
  rw [bne_eq_false_iff_eq, ← h]; omega
theorem quo (a b : Int) (h0 : 0 ≤ a) (h1 : a < 4294967296) (h2 : 0 < b) (h3 : b < 4294967296) :
    doR 24 a b = a / b ∧ doR 23 (doR 24 a b) b = a - a % b ∧ 0 ≤ a % b ∧ a % b < b ∧ a % b ≤ a := by
  have e1 : doR 24 a b = a / b := by unfold doR; simp; omega
  have h4 := Int.emod_nonneg a (by omega : b ≠ 0)
  have h5 := Int.emod_lt_of_pos a h2
  have h6 := Int.mul_ediv_add_emod a b
  have h7 := Int.ediv_nonneg h0 (by omega : 0 ≤ b)
  have h8 : a % b ≤ a := by
    have := Int.mul_nonneg (by omega : 0 ≤ b) h7
    omega
  refine ⟨e1, ?_, h4, h5, h8⟩
  rw [e1]
  show (a / b * b) % 4294967296 = _
  rw [Int.mul_comm]; omega
theorem moved_back (a k : Int) (h0 : 0 ≤ k) (h1 : k < 32) : doR 22 (doR 21 a k) k = a * 2 ^ k.toNat % 4294967296 / 2 ^ k.toNat := by
  have e1 : doR 21 a k = a * 2 ^ k.toNat % 4294967296 := by
    show mvF a k true = _
    unfold mvF; rw [if_neg (by omega), if_pos rfl]
  rw [e1]
  show mvF _ k false = _
  unfold mvF; rw [if_neg (by omega), if_neg (by decide)]

set_option maxHeartbeats 400000 in
theorem laws_no (a : Int) (w : World) (h0 : 0 ≤ a) (h1 : a < 4294967296) :
    Calls Try.prog 3 #[.int .u32 a, .int .u32 0] w fun e w' => e = .returned (.bool true) ∧ w = w' := by
  have b1 := doR_rng 16 a 0 h0 h1 (by omega) (by omega)
  have b3 := doR_rng 18 a 0 h0 h1 (by omega) (by omega)
  have b4 := doR_rng 19 a 0 h0 h1 (by omega) (by omega)
  have b7 := doR_rng 24 a 0 h0 h1 (by omega) (by omega)
  have b9 := doR_rng 21 a 0 h0 h1 (by omega) (by omega)
  have e1 := back_add a 0 h0 h1
  have e2 := fit_sum a 0 h0 h1 (by omega) (by omega)
  have e3 := fit_xor a 0 h0 h1 (by omega) (by omega)
  have e6 := moved_back a 0 (by omega) (by omega)
  have ek : doK 24 0 = false := by decide
  simp at e6
  go_enter Try.func3, Try.ntmps3
  go_wp2_with (first | (go_at_call 9; refine (do_any _ _ _ _ (by omega) (by omega) (by omega) (by omega)).mono ?_; rintro e w' ⟨rfl, rfl⟩) | (go_at_call 10; refine (known_any _).mono ?_; rintro e w' ⟨rfl, rfl⟩))
  go_ret
  exact ⟨ret_b rfl, rfl⟩
set_option maxHeartbeats 400000 in
theorem laws_yes (a b : Int) (w : World) (h0 : 0 ≤ a) (h1 : a < 4294967296) (h2 : 0 < b) (h3 : b < 4294967296) :
    Calls Try.prog 3 #[.int .u32 a, .int .u32 b] w fun e w' => e = .returned (.bool true) ∧ w = w' := by
  have h2' : 0 ≤ b := by omega
  have b1 := doR_rng 16 a b h0 h1 h2' h3
  have b3 := doR_rng 18 a b h0 h1 h2' h3
  have b4 := doR_rng 19 a b h0 h1 h2' h3
  have b7 := doR_rng 24 a b h0 h1 h2' h3
  have b9 := doR_rng 21 a (b % 32) h0 h1 (by omega) (by omega)
  have e1 := back_add a b h0 h1
  have e2 := fit_sum a b h0 h1 h2' h3
  have e3 := fit_xor a b h0 h1 h2' h3
  have e6 := moved_back a (b % 32) (by omega) (by omega)
  have ek : doK 24 b = true := by unfold doK; simp; omega
  obtain ⟨-, q1, q2, q3, q4⟩ := quo a b h0 h1 h2 h3
  have e0 : (b != 0) = true := by rw [bne_iff_ne]; omega
  have m1 : doR 23 (doR 24 a b) b ≤ a := by omega
  have m2 : a - doR 23 (doR 24 a b) b < b := by omega
  have m3 : 0 ≤ doR 23 (doR 24 a b) b := by omega
  clear q1 q2 q3 q4
  go_enter Try.func3, Try.ntmps3
  go_wp2_with (first | (go_at_call 9; refine (do_any _ _ _ _ (by omega) (by omega) (by omega) (by omega)).mono ?_; rintro e w' ⟨rfl, rfl⟩) | (go_at_call 10; refine (known_any _).mono ?_; rintro e w' ⟨rfl, rfl⟩))
  go_ret
  exact ⟨ret_b rfl, rfl⟩
end Go.Proofs.Ytjdhdciijdpghaa
