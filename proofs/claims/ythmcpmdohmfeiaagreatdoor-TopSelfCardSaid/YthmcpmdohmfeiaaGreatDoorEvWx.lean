/- Slots in nests of eight. -/
import Derived.Test.YthmcpmdohmfeiaaGreatDoorEvWc
namespace Go.Ev
open Go
set_option linter.unusedVariables false
set_option linter.unusedSimpArgs false
set_option linter.constructorNameAsVariable false
noncomputable section
abbrev Tm := Nest 3 SV
def tAt (i : Nat) (tm : Tm) : SV := nAt i 3 tm
def sAt (i : Nat) (v : SV) (tm : Tm) : Tm := nSet i v 3 tm
theorem tAt_set {i j : Nat} (hi : i < 512) (hj : j < 512) (v : SV) (tm : Tm) : tAt j (sAt i v tm) = if j = i then v else tAt j tm := by
  unfold tAt sAt
  have e : (8 : Nat) ^ 3 = 512 := rfl
  rw [nAt_nSet, e, Nat.mod_eq_of_lt hi, Nat.mod_eq_of_lt hj]
def gT (i : Nat) (tm : Tm) (K : SV → Bool) : Bool := ifK (Nat.ble (Nat.succ i) 512) (Bx.rec (motive := fun _ => Bool) (fun g => K (g tm)) (nG 3 i)) false
theorem gT_true {i : Nat} {tm : Tm} {K : SV → Bool} (h : gT i tm K = true) : i < 512 ∧ K (tAt i tm) = true := by
  obtain ⟨h1, h⟩ := ifF_true h
  rw [nG_eq] at h
  exact ⟨Nat.le_of_ble_eq_true h1, h⟩
def pT (i : Nat) (v : SV) (tm : Tm) (K : Tm → Bool) : Bool := ifK (Nat.ble (Nat.succ i) 512) (Bx.rec (motive := fun _ => Bool) (fun g => g v tm K) (nP 3 i)) false
theorem pT_true {i : Nat} {v : SV} {tm : Tm} {K : Tm → Bool} (h : pT i v tm K = true) : i < 512 ∧ K (sAt i v tm) = true := by
  obtain ⟨h1, h⟩ := ifF_true h
  rw [nP_eq] at h
  exact ⟨Nat.le_of_ble_eq_true h1, h⟩
def TRel (ρ : Nat → Nat) (tm : Tm) (tr : Tr Value) : Prop := ∀ i, i < 512 → (tr.get i).getD undef = (tAt i tm).inst ρ
theorem TRel.put {ρ : Nat → Nat} {tm : Tm} {tr : Tr Value} (h : TRel ρ tm tr) {i : Nat} (hi : i < 512) (v : SV) : TRel ρ (sAt i v tm) (tr.put i (some (v.inst ρ))) := by
  intro j hj
  rw [tAt_set hi hj, Tr.get_put]
  by_cases e : j = i
  · subst e; simp
  · rw [if_neg e, if_neg e]; exact h j hj
/-- No slot is filled. -/
def e3 : Tm := nRep .u 3
theorem TRel.empty (ρ : Nat → Nat) : TRel ρ e3 .lf := by
  intro i hi
  unfold tAt e3
  rw [nAt_rep]; rfl
end
end Go.Ev
