/- Slots, as what is done with them: a row of eight is a function of what takes its eight parts. -/
import Derived.Test.YthmcpmdohmfeiaaGreatDoorEvWc
namespace Go.Ev
open Go
set_option linter.unusedVariables false
set_option linter.unusedSimpArgs false
set_option linter.constructorNameAsVariable false
noncomputable section
abbrev F8 (α : Type) := (α → α → α → α → α → α → α → α → Bool) → Bool
@[reducible] def NF (k : Nat) : Type := Nat.rec (motive := fun _ => Type) SV (fun _ T => F8 T) k
/-- A nest, told so. -/
def enc (k : Nat) : Nest k SV → NF k := Nat.rec (motive := fun k => Nest k SV → NF k) (fun v => v) (fun k ih r => N8.rec (motive := fun _ => F8 (NF k)) (fun a0 a1 a2 a3 a4 a5 a6 a7 F => F (ih a0) (ih a1) (ih a2) (ih a3) (ih a4) (ih a5) (ih a6) (ih a7)) r) k
def sl8 {α : Type} (d : D8) : Bx (F8 α → (α → Bool) → Bool) := D8.rec (motive := fun _ => Bx (F8 α → (α → Bool) → Bool))
  (.mk fun t K => t fun a0 a1 a2 a3 a4 a5 a6 a7 => K a0) (.mk fun t K => t fun a0 a1 a2 a3 a4 a5 a6 a7 => K a1) (.mk fun t K => t fun a0 a1 a2 a3 a4 a5 a6 a7 => K a2) (.mk fun t K => t fun a0 a1 a2 a3 a4 a5 a6 a7 => K a3)
  (.mk fun t K => t fun a0 a1 a2 a3 a4 a5 a6 a7 => K a4) (.mk fun t K => t fun a0 a1 a2 a3 a4 a5 a6 a7 => K a5) (.mk fun t K => t fun a0 a1 a2 a3 a4 a5 a6 a7 => K a6) (.mk fun t K => t fun a0 a1 a2 a3 a4 a5 a6 a7 => K a7) d
abbrev UF (α : Type) := (α → (α → Bool) → Bool) → F8 α → (F8 α → Bool) → Bool
def uc8 {α : Type} (d : D8) : Bx (UF α) := D8.rec (motive := fun _ => Bx (UF α))
  (.mk fun F t K => t fun a0 a1 a2 a3 a4 a5 a6 a7 => F a0 fun v => K fun G => G v a1 a2 a3 a4 a5 a6 a7) (.mk fun F t K => t fun a0 a1 a2 a3 a4 a5 a6 a7 => F a1 fun v => K fun G => G a0 v a2 a3 a4 a5 a6 a7)
  (.mk fun F t K => t fun a0 a1 a2 a3 a4 a5 a6 a7 => F a2 fun v => K fun G => G a0 a1 v a3 a4 a5 a6 a7) (.mk fun F t K => t fun a0 a1 a2 a3 a4 a5 a6 a7 => F a3 fun v => K fun G => G a0 a1 a2 v a4 a5 a6 a7)
  (.mk fun F t K => t fun a0 a1 a2 a3 a4 a5 a6 a7 => F a4 fun v => K fun G => G a0 a1 a2 a3 v a5 a6 a7) (.mk fun F t K => t fun a0 a1 a2 a3 a4 a5 a6 a7 => F a5 fun v => K fun G => G a0 a1 a2 a3 a4 v a6 a7)
  (.mk fun F t K => t fun a0 a1 a2 a3 a4 a5 a6 a7 => F a6 fun v => K fun G => G a0 a1 a2 a3 a4 a5 v a7) (.mk fun F t K => t fun a0 a1 a2 a3 a4 a5 a6 a7 => F a7 fun v => K fun G => G a0 a1 a2 a3 a4 a5 a6 v) d
abbrev RdF (k : Nat) := NF k → (SV → Bool) → Bool
abbrev WrF (k : Nat) := SV → NF k → (NF k → Bool) → Bool
def rdG (i k : Nat) : Bx (RdF k) := Nat.rec (motive := fun k => Bx (RdF k)) (.mk fun v K => K v) (fun k ih => Bx.rec (motive := fun _ => Bx (RdF (k + 1))) (fun g => Bx.rec (motive := fun _ => Bx (RdF (k + 1))) (fun f => .mk fun t K => f t fun u => g u K) (sl8 (dig (Nat.div i (Nat.pow 8 k))))) ih) k
def wrG (i k : Nat) : Bx (WrF k) := Nat.rec (motive := fun k => Bx (WrF k)) (.mk fun v _ K => K v) (fun k ih => Bx.rec (motive := fun _ => Bx (WrF (k + 1))) (fun g => Bx.rec (motive := fun _ => Bx (WrF (k + 1))) (fun f => .mk fun v t K => f (g v) t K) (uc8 (dig (Nat.div i (Nat.pow 8 k))))) ih) k
theorem sl8_ok (k : Nat) (d : D8) : ∃ f, (sl8 d : Bx (F8 (NF k) → (NF k → Bool) → Bool)) = .mk f ∧ ∀ (r : Nest (k + 1) SV) K, f (enc (k + 1) r) K = K (enc k (get8 d r)) := by
  cases d <;> exact ⟨_, rfl, fun r K => by cases r; rfl⟩
theorem uc8_ok (k : Nat) (d : D8) : ∃ f, (uc8 d : Bx (UF (NF k))) = .mk f ∧ ∀ (F : NF k → (NF k → Bool) → Bool) (r : Nest (k + 1) SV) (K : NF (k + 1) → Bool) (v : Nest k SV), (∀ K', F (enc k (get8 d r)) K' = K' (enc k v)) → f F (enc (k + 1) r) K = K (enc (k + 1) (set8 d r v)) := by
  cases d <;> exact ⟨_, rfl, fun F r K v h => by cases r; exact h _⟩
theorem rdG_ok (i : Nat) : ∀ k, ∃ f : RdF k, rdG i k = .mk f ∧ ∀ r K, f (enc k r) K = K (nAt i k r) := by
  intro k
  induction k with
  | zero => exact ⟨_, rfl, fun r K => rfl⟩
  | succ k ih =>
    obtain ⟨g, h1, h2⟩ := ih
    obtain ⟨f, h3, h4⟩ := sl8_ok k (dig (Nat.div i (Nat.pow 8 k)))
    refine ⟨fun t K => f t fun u => g u K, ?_, fun r K => ?_⟩
    · show (Bx.rec (motive := fun _ => Bx (RdF (k + 1))) (fun g => Bx.rec (motive := fun _ => Bx (RdF (k + 1))) (fun f => .mk fun t K => f t fun u => g u K) (sl8 (dig (Nat.div i (Nat.pow 8 k))))) (rdG i k)) = _
      rw [h1, h3]
    · show f (enc (k + 1) r) (fun u => g u K) = _
      rw [h4, h2]; rfl
theorem wrG_ok (i : Nat) : ∀ k, ∃ f : WrF k, wrG i k = .mk f ∧ ∀ v r K, f v (enc k r) K = K (enc k (nSet i v k r)) := by
  intro k
  induction k with
  | zero => exact ⟨_, rfl, fun v r K => rfl⟩
  | succ k ih =>
    obtain ⟨g, h1, h2⟩ := ih
    obtain ⟨f, h3, h4⟩ := uc8_ok k (dig (Nat.div i (Nat.pow 8 k)))
    refine ⟨fun v t K => f (g v) t K, ?_, fun v r K => ?_⟩
    · show (Bx.rec (motive := fun _ => Bx (WrF (k + 1))) (fun g => Bx.rec (motive := fun _ => Bx (WrF (k + 1))) (fun f => .mk fun v t K => f (g v) t K) (uc8 (dig (Nat.div i (Nat.pow 8 k))))) (wrG i k)) = _
      rw [h1, h3]
    · show f (g v) (enc (k + 1) r) K = _
      rw [h4 (g v) r K _ fun K' => h2 v _ K']; rfl
/-! Slots -/
abbrev Tm := NF 3
def TRel (ρ : Nat → Nat) (tm : Tm) (tr : Tr Value) : Prop := ∃ r : Nest 3 SV, tm = enc 3 r ∧ ∀ i, i < 512 → (tr.get i).getD undef = (nAt i 3 r).inst ρ
def gT (i : Nat) (tm : Tm) (K : SV → Bool) : Bool := ifK (Nat.ble (Nat.succ i) 512) (Bx.rec (motive := fun _ => Bool) (fun g => g tm K) (rdG i 3)) false
theorem gT_true {ρ : Nat → Nat} {i : Nat} {tm : Tm} {tr : Tr Value} (hT : TRel ρ tm tr) {K : SV → Bool} (h : gT i tm K = true) : ∃ v, (tr.get i).getD undef = v.inst ρ ∧ K v = true := by
  obtain ⟨h1, h⟩ := ifF_true h
  obtain ⟨r, rfl, hr⟩ := hT
  obtain ⟨f, h2, h3⟩ := rdG_ok i 3
  rw [h2] at h
  have h : f (enc 3 r) K = true := h
  rw [h3] at h
  exact ⟨_, hr i (Nat.le_of_ble_eq_true h1), h⟩
def pT (i : Nat) (v : SV) (tm : Tm) (K : Tm → Bool) : Bool := ifK (Nat.ble (Nat.succ i) 512) (Bx.rec (motive := fun _ => Bool) (fun g => g v tm K) (wrG i 3)) false
theorem pT_true {ρ : Nat → Nat} {i : Nat} {v : SV} {tm : Tm} {tr : Tr Value} (hT : TRel ρ tm tr) {K : Tm → Bool} (h : pT i v tm K = true) : ∃ tm', TRel ρ tm' (tr.put i (some (v.inst ρ))) ∧ K tm' = true := by
  obtain ⟨h1, h⟩ := ifF_true h
  have h1 : i < 512 := Nat.le_of_ble_eq_true h1
  obtain ⟨r, rfl, hr⟩ := hT
  obtain ⟨f, h2, h3⟩ := wrG_ok i 3
  rw [h2] at h
  have h : f v (enc 3 r) K = true := h
  rw [h3] at h
  refine ⟨_, ⟨_, rfl, fun j hj => ?_⟩, h⟩
  have e : (8 : Nat) ^ 3 = 512 := rfl
  rw [nAt_nSet, e, Nat.mod_eq_of_lt hj, Nat.mod_eq_of_lt h1, Tr.get_put]
  by_cases e : j = i
  · subst e; simp
  · rw [if_neg e, if_neg e]; exact hr j hj
def e1 : NF 1 := fun F => F .u .u .u .u .u .u .u .u
def e2 : NF 2 := fun F => F e1 e1 e1 e1 e1 e1 e1 e1
/-- No slot is filled. -/
def e3 : Tm := fun F => F e2 e2 e2 e2 e2 e2 e2 e2
theorem TRel.empty (ρ : Nat → Nat) : TRel ρ e3 .lf := ⟨nRep .u 3, rfl, fun i hi => by rw [nAt_rep]; rfl⟩
/-- The first eight slots are filled. -/
def s3 (a : N8 SV) (K : Tm → Bool) : Bool := N8.rec (motive := fun _ => Bool) (fun a0 a1 a2 a3 a4 a5 a6 a7 => K fun F => F (fun F => F (fun F => F a0 a1 a2 a3 a4 a5 a6 a7) e1 e1 e1 e1 e1 e1 e1) e2 e2 e2 e2 e2 e2 e2) a
def s3d (a : N8 SV) : Nest 3 SV := .mk (.mk a (nRep .u 1) (nRep .u 1) (nRep .u 1) (nRep .u 1) (nRep .u 1) (nRep .u 1) (nRep .u 1)) (nRep .u 2) (nRep .u 2) (nRep .u 2) (nRep .u 2) (nRep .u 2) (nRep .u 2) (nRep .u 2)
theorem s3_eq (a : N8 SV) (K : Tm → Bool) : s3 a K = K (enc 3 (s3d a)) := by cases a; rfl
end
end Go.Ev
