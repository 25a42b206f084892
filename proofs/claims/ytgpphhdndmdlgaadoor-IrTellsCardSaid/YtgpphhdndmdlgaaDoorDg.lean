/- Chapter 19's law: digits. -/
import Derived.Test.YtgpphhdndmdlgaaDoorGf
import Derived.Lib.Hide
import Derived.RegionTactic
import Derived.Deep.QuietTactic
import Derived.BigQuiet
namespace Go.Proofs.YtgpphhdndmdlgaaDoor
open Go Go.RowKit Go.Lib
set_option linter.unusedVariables false
set_option linter.unusedSimpArgs false
set_option maxRecDepth 100000
namespace Ls
def fin (n : Nat) (l : List UInt8) : List UInt8 := if n = 0 then (if l = [] then [48] else l) else Lib.decDigits n ++ l
theorem fin_len {n k : Nat} {l : List UInt8} (h : fin n l = Lib.decDigits k) (hk : k < 18446744073709551616) : l.length ≤ 20 := by
 have h1 : (Lib.decDigits k).length ≤ 20 := by
  rw [Lib.decDigits_length]
  by_cases h0 : k = 0
  ·subst h0; rw [Lib.nDigits_small (by omega)]; omega
  ·have := Lib.numDigits_eq k (by omega) (by omega); split at this <;> omega
 rw [← h] at h1
 unfold fin at h1
 split at h1
 ·split at h1
  ·rename_i e; subst e; simp
  ·exact h1
 ·simp at h1; omega
theorem fin_step (n : Nat) (l : List UInt8) (h : 0 < n ∨ l = []) : fin (n / 10) (UInt8.ofNat (48 + n % 10) :: l) = fin n l := by
 unfold fin
 by_cases h0 : n = 0
 ·subst h0
  rcases h with h | h
  ·omega
  ·subst h; rfl
 ·rw [if_neg h0]
  by_cases h1 : n < 10
  ·have e1 : n / 10 = 0 := by omega
   have e2 : n % 10 = n := by omega
   rw [if_pos e1, if_neg (by simp), e2, Lib.decDigits, dif_pos h1]; rfl
  ·rw [if_neg (by omega), Lib.decDigits.eq_def n, dif_neg h1]; simp
theorem fin_start (n : Nat) : fin n [] = Lib.decDigits n := by
 unfold fin
 split
 ·rename_i h; subst h; rw [Lib.decDigits, dif_pos (by omega)]; rfl
 ·simp
theorem str_cons (c : UInt8) (l : List UInt8) : (⟨⟨[c]⟩⟩ : ByteArray) ++ ⟨⟨l⟩⟩ = ⟨⟨c :: l⟩⟩ := by
 apply ByteArray.ext
 simp
theorem enc_dig (m : Nat) : ∃ c : UInt8, c = UInt8.ofNat (48 + m % 10) ∧ Utf8.encode (48 + (m : Int) % 10) = ⟨⟨[c]⟩⟩ := by
 have e : (48 + (m : Int) % 10) = ((48 + m % 10 : Nat) : Int) := by omega
 rw [e]
 refine ⟨_, rfl, ?_⟩
 rcases (by omega : m % 10 = 0 ∨ m % 10 = 1 ∨ m % 10 = 2 ∨ m % 10 = 3 ∨ m % 10 = 4 ∨ m % 10 = 5 ∨ m % 10 = 6 ∨ m % 10 = 7 ∨ m % 10 = 8 ∨ m % 10 = 9) with h | h | h | h | h | h | h | h | h | h <;> rw [h] <;> rfl
theorem size_mk (l : List UInt8) : (⟨⟨l⟩⟩ : ByteArray).size = l.length := rfl
def msr (v : Value) : Nat := match v with | .string b => if b.size = 0 then 1 else 0 | _ => 0
set_option maxHeartbeats 2000000 in
theorem digits_pos (k : Nat) (hk : k < 9223372036854775808) (w : World) :
    Calls Tryd.prog 25 #[.int .i64 k] w fun e w' => e = .returned (.string ⟨⟨Lib.decDigits k⟩⟩) ∧ w' = w := by
 go_enter Tryd.func25, Tryd.ntmps25
 go_wp2_with fail
 go_loop [0, 3] (fun n s => ∃ (m : Nat) (l : List UInt8), m ≤ k ∧ n = .int .i64 m ∧ s = .string ⟨⟨l⟩⟩ ∧ fin m l = Lib.decDigits k) (fun n s => (Lib.intOf n).toNat + msr s)
 case atStart => exact ⟨k, [], Nat.le_refl _, rfl, rfl, fin_start k⟩
 case round =>
  obtain ⟨m, l, hm, rfl, rfl, hf⟩ := hrel
  have hlen := fin_len hf (by omega)
  obtain ⟨c, hc, henc⟩ := enc_dig m
  have Hc := Lib.hid hc
  clear hc
  by_cases h0 : 0 < m
  ·go_wp2_with fail
   all_goals first
    | (exfalso; simp [size_mk] at *; omega)
    | skip
   ·refine ⟨⟨m / 10, _, by omega, by rw [Int.natCast_ediv]; rfl, by rw [str_cons], by rw [Hc.out]; exact (fin_step m l (.inl h0)).trans hf⟩, ?_⟩
    rw [str_cons]
    simp [Lib.intOf, msr, size_mk]
    omega
  ·obtain rfl : m = 0 := by omega
   cases l with
   | nil =>
    have henc : Utf8.encode 48 = ⟨⟨[c]⟩⟩ := by simpa using henc
    go_wp2_with fail
    all_goals first
     | (exfalso; simp [size_mk] at *; omega)
     | skip
    ·refine ⟨⟨0, _, by omega, rfl, by rw [str_cons], by rw [Hc.out]; exact (fin_step 0 [] (.inr rfl)).trans hf⟩, ?_⟩
     rw [str_cons]
     simp [Lib.intOf, msr, size_mk]
   | cons c l =>
    have hff : c :: l = Lib.decDigits k := by simpa [fin] using hf
    have hem : (Lib.decDigits k).isEmpty = false := by rw [← hff]; rfl
    rw [hff]
    clear hf hff hlen
    go_wp2_with fail
    go_ret
    exact ⟨rfl, rfl⟩
def decZ (n : Int) : List UInt8 := if n < 0 then 45 :: Lib.decDigits (-n).toNat else Lib.decDigits n.toNat
theorem len_dig (k : Nat) (hk : k < 18446744073709551616) : (Lib.decDigits k).length ≤ 20 := by
 rw [Lib.decDigits_length]
 by_cases h0 : k = 0
 ·subst h0; rw [Lib.nDigits_small (by omega)]; omega
 ·have := Lib.numDigits_eq k (by omega) (by omega); split at this <;> omega
theorem decZ_len (n : Int) (h0 : -9223372036854775807 ≤ n) (h1 : n ≤ 9223372036854775807) : (decZ n).length ≤ 21 := by
 unfold decZ
 split
 ·have := len_dig (-n).toNat (by omega); simp; omega
 ·have := len_dig n.toNat (by omega); omega
set_option maxHeartbeats 2000000 in
theorem digits_any (n : Int) (h0 : -9223372036854775807 ≤ n) (h1 : n ≤ 9223372036854775807) (w : World) :
    Calls Tryd.prog 25 #[.int .i64 n] w fun e w' => e = .returned (.string ⟨⟨decZ n⟩⟩) ∧ w' = w := by
 by_cases hn : n < 0
 ·obtain ⟨k, rfl⟩ : ∃ k : Nat, n = -(k : Int) := ⟨(-n).toNat, by omega⟩
  have hd := digits_pos k (by omega) w
  have hz : decZ (-(k : Int)) = 45 :: Lib.decDigits k := by unfold decZ; rw [if_pos hn]; simp
  have hl : (Lib.decDigits k).length ≤ 21 := by have := decZ_len _ h0 h1; rw [hz] at this; simp at this; omega
  rw [hz]
  go_enter Tryd.func25, Tryd.ntmps25
  go_wp2_with (go_at_call 25; refine Calls.mono (by simpa using hd) ?_; rintro e w' ⟨rfl, rfl⟩)
  go_ret
  exact ⟨by show Ending.returned (Value.string ((⟨⟨[45]⟩⟩ : ByteArray) ++ ⟨⟨Lib.decDigits k⟩⟩)) = _; rw [str_cons], rfl⟩
 ·obtain ⟨k, rfl⟩ : ∃ k : Nat, n = (k : Int) := ⟨n.toNat, by omega⟩
  have hz : decZ (k : Int) = Lib.decDigits k := by unfold decZ; rw [if_neg hn]; simp
  rw [hz]; exact digits_pos k (by omega) w
end Ls
end Go.Proofs.YtgpphhdndmdlgaaDoor
