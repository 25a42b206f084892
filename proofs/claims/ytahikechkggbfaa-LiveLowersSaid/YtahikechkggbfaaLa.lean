/- Chapter 20: calls of data. -/
import Derived.Test.YtahikechkggbfaaRows
import Derived.Test.YtahikechkggbfaaEvc
import Derived.WalkKit
import Derived.Lib.Hide
import Derived.RegionTactic
namespace Go.Proofs.Ytahikechkggbfaa
open Go Go.Ev Go.RowKit
set_option linter.unusedVariables false
set_option linter.unusedSimpArgs false
set_option maxRecDepth 100000
namespace Lm
theorem ret_one {k : IntKind} {a b : Int} (h : a = b) : Ending.returned (.int k a) = .returned (.int k b) := by rw [h]
theorem tmod_emod (n m : Int) (hm : 0 < m) : n.tmod m = if 0 ≤ n then n % m else if n % m = 0 then 0 else n % m - m := by
  split
  · rename_i h; exact Int.tmod_eq_emod_of_nonneg h
  · rename_i h
    have h1 : n.tmod m = - ((-n) % m) := by
      have := Int.neg_tmod (-n) m
      rw [Int.neg_neg] at this
      rw [this, Int.tmod_eq_emod_of_nonneg (by omega)]
    have h2 : (-n) % m = if n % m = 0 then 0 else m - n % m := by
      have hd := Int.mul_ediv_add_emod n m
      have hp := Int.emod_nonneg n (by omega : m ≠ 0)
      have hq := Int.emod_lt_of_pos n hm
      split
      · rename_i h0
        have : m ∣ n := Int.dvd_of_emod_eq_zero h0
        exact Int.emod_eq_zero_of_dvd (Int.dvd_neg.2 this)
      · rename_i h0
        have e : -n = (m - n % m) + m * (-(n / m) - 1) := by
          rw [Int.mul_sub, Int.mul_neg, Int.mul_one]; omega
        rw [e, Int.add_mul_emod_self_left]
        exact Int.emod_eq_of_lt (by omega) (by omega)
    rw [h1, h2]; split <;> omega
set_option maxHeartbeats 400000 in
theorem within_any (n lo hi : Int) (w : World) (h0 : -9223372036854775808 ≤ n) (h1 : n ≤ 9223372036854775807) (h2 : 0 ≤ lo) (h3 : lo ≤ hi) (h4 : hi ≤ 1099511627776) :
    Calls Try.prog 12 #[.int .i64 n, .int .i64 lo, .int .i64 hi] w fun e w' => e = .returned (.int .i64 (lo + n % (hi - lo + 1))) ∧ w = w' := by
  have ht := tmod_emod n (hi - lo + 1) (by omega)
  have hp := Int.emod_nonneg n (by omega : hi - lo + 1 ≠ 0)
  have hq := Int.emod_lt_of_pos n (by omega : 0 < hi - lo + 1)
  generalize n % (hi - lo + 1) = r at *
  have b1 : -(hi - lo + 1) < n.tmod (hi - lo + 1) := by rw [ht]; split <;> (try split) <;> omega
  have b2 : n.tmod (hi - lo + 1) < hi - lo + 1 := by rw [ht]; split <;> (try split) <;> omega
  have Ht := Lib.hid ht
  clear ht
  go_enter Try.func12, Try.ntmps12
  go_wp2
  all_goals
    go_ret
    refine ⟨ret_one ?_, rfl⟩
    have := Ht.out
    revert this
    split <;> (try split) <;> intro this <;> omega

def i64B (n : Int) : Bool := decide (-9223372036854775808 ≤ n) && decide (n ≤ 9223372036854775807)
noncomputable def T0 : Tab := tabOf Try.prog
theorem progOk0 [Bs] : ProgOk Try.prog T0 := progOk_of (by kernel_rfl) (by kernel_rfl)
def inB (n lo hi : Int) : Bool := decide (-9223372036854775808 ≤ n) && decide (n ≤ 9223372036854775807) && decide (0 ≤ lo) && decide (lo ≤ hi) && decide (hi ≤ 1099511627776)
theorem quiet_eq {w w' : World} {e : Ending} {v : Value} (h : e = .returned v ∧ w = w') : e = .returned v ∧ Quiet w w' := ⟨h.1, by rw [← h.2]; exact Quiet.refl _⟩
def sp12 : List Value → Option Value
  | [.int .i64 n, .int .i64 lo, .int .i64 hi] => bif inB n lo hi then some (.int .i64 (lo + n % (hi - lo + 1))) else none
  | _ => none
noncomputable def T1 : Tab := { T0 with orc := addOrc T0.orc 12 sp12 }
theorem progOk1 [Bs] : ProgOk Try.prog T1 := progOk0.add 12 sp12 fun args v h => by
  unfold sp12 at h
  split at h
  · rename_i n lo hi; cases hb : (inB n lo hi)
    · rw [hb] at h; cases h
    · rw [hb] at h; cases h
      unfold inB at hb
      simp only [Bool.and_eq_true, decide_eq_true_eq] at hb
      obtain ⟨⟨⟨⟨h1, h2⟩, h3⟩, h4⟩, h5⟩ := hb
      exact ⟨rfl, rfl, fun w _ => (within_any n lo hi w h1 h2 h3 h4 h5).mono fun _ _ => quiet_eq⟩
  · cases h
theorem orc12 (n : Int) (lo : Int) (hi : Int) (h : inB n lo hi = true) : sp12 [.int .i64 n, .int .i64 lo, .int .i64 hi] = some (.int .i64 (lo + n % (hi - lo + 1))) := by
  simp only [sp12, h, cond_true]
theorem known_run : answers (.bool true) (evCall Try.prog T1 600 11 #[] ⟨.lf, 0⟩) = true := by kernel_rfl
def sp11 : List Value → Option Value
  | [] => some (.bool true)
  | _ => none
noncomputable def T2 : Tab := { T1 with orc := addOrc T1.orc 11 sp11 }
theorem progOk2 [Bs] : ProgOk Try.prog T2 := progOk1.know 11 sp11 fun args v h => by
  unfold sp11 at h
  split at h
  · cases h; exact ⟨rfl, rfl, acall_answers known_run⟩
  · cases h
/-- A block of another kind is not the slice's. -/
theorem Gr.neT {H : Heap} {lo : Nat} {e e' : TypeId} {s len : Nat} {v : Value} {xs cells : List Value} {ro : Bool} {D : Nat} (h : Gr H lo e s v len xs) (hD : H.get D = some ⟨cells, e', ro⟩) (he : e ≠ e') : ∀ B c k, v = .slice (some ⟨B, 0, none⟩) c k → D ≠ B := by
  intro B c k hv hDB
  rcases h.at_ with ⟨h1, _⟩ | ⟨B3, h1, h2, _, _⟩
  · rw [h1] at hv; cases hv
  · rw [h1] at hv
    injection hv with hv _ _; injection hv with hv; injection hv with hv
    subst hDB hv
    rw [h2] at hD
    injection hD with hD; injection hD with _ hD _
    exact he hD
theorem Gr.one {H : Heap} {lo : Nat} {e : TypeId} {s len : Nat} {v : Value} {xs : List Value} (h : Gr H lo e s v len xs) : v.cells = #[v] ∧ Ev.one v = true := by
  rcases h.at_ with ⟨h1, _⟩ | ⟨B3, h1, _⟩ <;> (subst h1; exact ⟨rfl, rfl⟩)
theorem Gr.other {H H' : Heap} {lo lo2 : Nat} {e e2 : TypeId} {s s2 n n2 : Nat} {v v2 : Value} {xs xs2 : List Value} (g : Gr H lo e s v n xs) (g2 : Gr H lo2 e2 s2 v2 n2 xs2) (he : e ≠ e2) (hn : H.n ≤ H'.n) (fr : ∀ b, b < H.n → (∀ B c k, v2 = .slice (some ⟨B, 0, none⟩) c k → b ≠ B) → H'.get b = H.get b) : Gr H' lo e s v n xs := by
  refine ⟨g.size, ?_⟩
  rcases g.at_ with h | ⟨B, h1, h2, h3, h4⟩
  · exact .inl h
  · exact .inr ⟨B, h1, by rw [fr B h3 (Gr.neT g2 h2 (fun h => he h.symm))]; exact h2, Nat.lt_of_lt_of_le h3 hn, h4⟩
/-- A row of numbers that came in. -/
structure NumsA (H : Heap) (kd : IntKind) (v : Value) (l : List Int) : Prop where
  at_ : (∃ cap, v = .slice none 0 cap ∧ l = []) ∨ ∃ A off cap cells e ro, v = .slice (some ⟨A, off, none⟩) l.length cap ∧ H.get A = some ⟨cells, e, ro⟩ ∧ A < H.n ∧ ∀ k (h : k < l.length), cells[off + k * 1]? = some (.int kd l[k])
abbrev II := Int × Int × Int × Int × Int
def iiC (i : II) : List Value := [.int .i64 i.1, .int .i64 i.2.1, .int .i64 i.2.2.1, .int .i64 i.2.2.2.1, .int .u32 i.2.2.2.2]
theorem Gr.int {H : Heap} {lo : Nat} {v : Value} {l : List Int} {a : Int} (h : Gr H lo 3 1 v (l.length + 1) (l.map (Value.int .i64) ++ [.int .i64 a])) : Gr H lo 3 1 v (l ++ [a]).length ((l ++ [a]).map (Value.int .i64)) := by
  rw [List.length_append, List.map_append]
  exact h
end Lm
end Go.Proofs.Ytahikechkggbfaa
