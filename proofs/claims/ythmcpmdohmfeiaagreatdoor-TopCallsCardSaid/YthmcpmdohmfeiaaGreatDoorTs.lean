/- A guest that goes through a row of states, one run from each to the next. -/
import Derived.Test.YthmcpmdohmfeiaaGreatDoorTo
namespace Go.Proofs.YthmcpmdohmfeiaaGreatDoor
open Go Go.Ev
set_option linter.unusedVariables false
namespace Tp
/-- States by their number; the end. -/
def seqX (St : Nat → Heap) (E : Heap) (n r : Nat) (S : Heap) : Prop := (∃ i, i ≤ n ∧ r = n - i + 1 ∧ S = St i) ∨ (r = 0 ∧ S = E)
def Told (H : Heap) : Prop := ∃ T ρ, H = tbH T ρ
theorem seq_fam {St : Nat → Heap} {E : Heap} {n : Nat} (tS : ∀ i, i ≤ n → Told (St i)) (tE : Told E) (l : ∀ i, i ≤ n → Lk false (St i)) (le : Lk true E)
    (p : ∀ i, i < n → Rn8 (St i) (St (i + 1))) (pe : Rn8 (St n) E) : Fam (seqX St E n) where
  wf := fun r S h => by
    rcases h with ⟨i, hi, _, rfl⟩ | ⟨_, rfl⟩
    · obtain ⟨T, ρ, h⟩ := tS i hi
      rw [h]; exact ⟨tbH_wf _ _, fun b hb => tbH_wr hb⟩
    · obtain ⟨T, ρ, h⟩ := tE
      rw [h]; exact ⟨tbH_wf _ _, fun b hb => tbH_wr hb⟩
  st := fun r S h => by
    have h0 := h
    rcases h with ⟨i, hi, hr, rfl⟩ | ⟨hr, rfl⟩
    · subst hr; exact l i hi _ h0
    · subst hr; exact le _ h0
  run := fun r S h => by
    rcases h with ⟨i, hi, hr, rfl⟩ | ⟨hr, rfl⟩
    · by_cases hn : i = n
      · subst hn; exact pe _ (.inr ⟨by omega, rfl⟩)
      · exact p i (by omega) _ (.inl ⟨i + 1, by omega, by omega, rfl⟩)
    · cases hr
/-- A sum, word by word. -/
def sm (x : Nat) : Nat → Nat
  | 0 => 0
  | i + 1 => (sm x i + x) % 4294967296
theorem sm_lt (x : Nat) : ∀ i, sm x i < 4294967296
  | 0 => by show 0 < _; omega
  | i + 1 => Nat.mod_lt _ (by omega)
theorem sm_mul (x : Nat) : ∀ i, sm x i = x * i % 4294967296
  | 0 => rfl
  | i + 1 => by
    show (sm x i + x) % 4294967296 = _
    rw [sm_mul x i, Nat.mul_succ]; omega
end Tp
end Go.Proofs.YthmcpmdohmfeiaaGreatDoor
