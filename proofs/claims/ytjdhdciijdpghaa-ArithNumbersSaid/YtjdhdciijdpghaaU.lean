/- The walk of ArithNumbers. -/
import Derived.Test.YtjdhdciijdpghaaV
import Derived.Deep.QuietTactic
import Derived.BigQuiet
import Derived.LoopTactic
namespace Go.Proofs.Ytjdhdciijdpghaa
open Go.RowKit
set_option linter.unusedVariables false
set_option linter.unusedSimpArgs false
def wds : List Int := [0, 1, 2, 31, 32, 33, 2147483646, 2147483647, 2147483648, 2147483649, 4294967294, 4294967295]
theorem wd_rng (x : Int) (h : x ∈ wds) : 0 ≤ x ∧ x < 4294967296 := by
  have : ∀ x ∈ wds, 0 ≤ x ∧ x < 4294967296 := by decide
  exact this x h
theorem same_q (op a b : Int) (w : World) (h0 : 0 ≤ a) (h1 : a < 4294967296) (h2 : 0 ≤ b) (h3 : b < 4294967296) :
    Calls Try.prog 11 #[.int .i64 op, .int .u32 a, .int .u32 b] w fun e w' => e = .returned (.bool true) ∧ w' = w :=
  (same_any op a b w h0 h1 h2 h3).mono fun _ _ ⟨h, h'⟩ => ⟨h, h'.symm⟩
/-- The words lie in a block of the call's own. -/
def Laid (B : Nat) (w : World) : Prop := ∀ i : Nat, i < 12 → ∃ x, x ∈ wds ∧ w.cell? ⟨B, i, none⟩ = some (.int .u32 x)
theorem laid_new (w : World) : Laid w.heap.size (w.alloc (.cells #[.int .u32 0, .int .u32 1, .int .u32 2, .int .u32 31, .int .u32 32, .int .u32 33, .int .u32 2147483646, .int .u32 2147483647, .int .u32 2147483648, .int .u32 2147483649, .int .u32 4294967294, .int .u32 4294967295] 22)) := by
  intro i hi
  rcases (by omega : i = 0 ∨ i = 1 ∨ i = 2 ∨ i = 3 ∨ i = 4 ∨ i = 5 ∨ i = 6 ∨ i = 7 ∨ i = 8 ∨ i = 9 ∨ i = 10 ∨ i = 11) with rfl | rfl | rfl | rfl | rfl | rfl | rfl | rfl | rfl | rfl | rfl | rfl
  · exact ⟨0, by decide, World.cell?_alloc_new _ _ _ _⟩
  · exact ⟨1, by decide, World.cell?_alloc_new _ _ _ _⟩
  · exact ⟨2, by decide, World.cell?_alloc_new _ _ _ _⟩
  · exact ⟨31, by decide, World.cell?_alloc_new _ _ _ _⟩
  · exact ⟨32, by decide, World.cell?_alloc_new _ _ _ _⟩
  · exact ⟨33, by decide, World.cell?_alloc_new _ _ _ _⟩
  · exact ⟨2147483646, by decide, World.cell?_alloc_new _ _ _ _⟩
  · exact ⟨2147483647, by decide, World.cell?_alloc_new _ _ _ _⟩
  · exact ⟨2147483648, by decide, World.cell?_alloc_new _ _ _ _⟩
  · exact ⟨2147483649, by decide, World.cell?_alloc_new _ _ _ _⟩
  · exact ⟨4294967294, by decide, World.cell?_alloc_new _ _ _ _⟩
  · exact ⟨4294967295, by decide, World.cell?_alloc_new _ _ _ _⟩
theorem Laid.drew {B : Nat} {w : World} (h : Laid B w) : Laid B w.drew := h
theorem Laid.drewN {B : Nat} {w : World} (h : Laid B w) (n : Nat) : Laid B (w.drewN n) := h
theorem grown_drewN {w w' : World} (h : Grown w w') (n : Nat) : Grown w (w'.drewN n) := h
set_option maxRecDepth 100000 in
set_option maxHeartbeats 1000000 in
theorem numbers_any (w : World) :
    Calls Try.prog 6 #[] w fun e w' => e = .returned (.bool true) ∧ Grown w w' := by
  have hl := laid_new w
  go_enter Try.func6, Try.ntmps6
  go_wp2
  generalize hB : w.heap.size = B at hl
  go_loopw [2] (fun o wr => ∃ n : Nat, n ≤ 81 ∧ o = .int .i64 ((n : Int) - 1) ∧ Laid B wr ∧ Grown w wr) (fun o _ => 81 - (intOf o + 1).toNat)
  case atStart => subst hB; exact ⟨0, by omega, rfl, hl, (Grown.refl w).alloc _ _⟩
  case round =>
    obtain ⟨n, hn, rfl, hlr, hg⟩ := hrel
    by_cases hlt : n < 81
    · have hd : decide ((n : Int) - 1 < 80) = true := by simp; omega
      go_wp2
      obtain ⟨wo, rfl⟩ : ∃ wo : World, wo = wr := ⟨_, rfl⟩
      go_loopw [3] (fun o wr => ∃ i : Nat, i ≤ 12 ∧ o = .int .i64 i ∧ Laid B wr ∧ Grown w wr) (fun o _ => 12 - (intOf o).toNat)
      case atStart => exact ⟨0, by omega, rfl, hlr, hg⟩
      case round =>
        obtain ⟨i, hi, rfl, hl1, hg1⟩ := hrel
        by_cases hlt1 : i < 12
        · go_wp2
          obtain ⟨w1, rfl⟩ : ∃ w1 : World, w1 = wr := ⟨_, rfl⟩
          go_loopw [4] (fun o wr => ∃ k : Nat, k ≤ 12 ∧ o = .int .i64 k ∧ Laid B wr ∧ Grown w wr) (fun o _ => 12 - (intOf o).toNat)
          case atStart => exact ⟨0, by omega, rfl, hl1, hg1⟩
          case round =>
            obtain ⟨k, hk, rfl, hl2, hg2⟩ := hrel
            by_cases hlt2 : k < 12
            · obtain ⟨x, hx, gx⟩ := hl2 i hlt1
              obtain ⟨y, hy, gy⟩ := hl2 k hlt2
              have rx := wd_rng x hx
              have ry := wd_rng y hy
              go_wp2
              go_quiet ((go_at_call 11; exact Calls.quiet_of_same (same_q _ _ _ _ rx.1 rx.2 ry.1 ry.2)))
              go_wp2
              go_roundw
              case rel => exact ⟨k + 1, by omega, by go_num, hl2.drewN _, grown_drewN hg2 _⟩
              case measure => simp [intOf]; omega
            · obtain rfl : k = 12 := by omega
              go_wp2_with (first | (go_at_call 12; refine (holds_any _ _ _).mono ?_; rintro e w' ⟨rfl, rfl⟩) | (go_at_call 13; refine (refholds_any _ _ _).mono ?_; rintro e w' ⟨rfl, rfl⟩))
              go_roundw
              case rel => exact ⟨i + 1, by omega, by go_num, hl2, hg2⟩
              case measure => simp [intOf]; omega
        · obtain rfl : i = 12 := by omega
          go_wp2
          go_roundw
          case rel => exact ⟨n + 1, by omega, by go_num, hl1, hg1⟩
          case measure => simp [intOf]; omega
    · obtain rfl : n = 81 := by omega
      go_wp2
      obtain ⟨wo, rfl⟩ : ∃ wo : World, wo = wr := ⟨_, rfl⟩
      go_loopw [9] (fun o wr => ∃ i : Nat, i ≤ 300 ∧ o = .int .u32 i ∧ Grown w wr) (fun o _ => 300 - (intOf o).toNat)
      case atStart => exact ⟨0, by omega, rfl, hg⟩
      case round =>
        obtain ⟨i, hi, rfl, hg1⟩ := hrel
        by_cases hlt1 : i < 300
        · go_wp2_with (first | (go_at_call 14; refine (sign_any _ _ (by omega) (by omega)).mono ?_; rintro e w' ⟨rfl, rfl⟩) | (go_at_call 15; refine (refsign_any _ _ (by omega) (by omega)).mono ?_; rintro e w' ⟨rfl, rfl⟩))
          go_roundw
          case rel => ((repeat apply Exists.intro); exact ⟨⟨i + 1, by omega, by go_num, hg1⟩, rfl⟩)
          case measure => simp [intOf]; omega
        · obtain rfl : i = 300 := by omega
          go_wp2_with (go_at_call 10; refine (known_any _).mono ?_; rintro e w' ⟨rfl, rfl⟩)
          go_ret
          exact ⟨ret_b rfl, hg1⟩
end Go.Proofs.Ytjdhdciijdpghaa
