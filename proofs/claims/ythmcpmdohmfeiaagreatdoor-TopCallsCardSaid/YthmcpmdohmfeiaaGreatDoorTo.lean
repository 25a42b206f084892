/- Small helps: words' values by lists; what is taken for granted of words; a guest that goes round and round till its time has come. -/
import Derived.Test.YthmcpmdohmfeiaaGreatDoorTn
namespace Go.Proofs.YthmcpmdohmfeiaaGreatDoor
open Go Go.Ev
set_option linter.unusedVariables false
namespace Tp
theorem all0 {α : Type} {p : α → Prop} : ∀ x ∈ ([] : List α), p x := fun x hx => by cases hx
theorem all2 {α : Type} {p : α → Prop} {a : α} {l : List α} (h : p a) (k : ∀ x ∈ l, p x) : ∀ x ∈ a :: l, p x := List.forall_mem_cons.2 ⟨h, k⟩
theorem asm_lt {ρ : Nat → Nat} {x y : W} (h : evW ρ x < evW ρ y) : Asm.ok ρ ⟨1, x, y, true⟩ := Nat.ble_eq_true_of_le h
theorem asm_ge {ρ : Nat → Nat} {x y : W} (h : ¬ evW ρ x < evW ρ y) : Asm.ok ρ ⟨1, x, y, false⟩ := by
  show Nat.blt _ _ = false
  cases hb : Nat.blt (evW ρ x) (evW ρ y)
  · rfl
  · exact absurd (Nat.le_of_ble_eq_true hb) h
theorem asm_ne {ρ : Nat → Nat} {x y : W} (h : evW ρ x ≠ evW ρ y) : Asm.ok ρ ⟨0, x, y, false⟩ := by
  show Nat.beq _ _ = false
  cases hb : Nat.beq (evW ρ x) (evW ρ y)
  · rfl
  · exact absurd (Nat.eq_of_beq_eq_true hb) h
theorem asm_eq {ρ : Nat → Nat} {x y : W} (h : evW ρ x = evW ρ y) : Asm.ok ρ ⟨0, x, y, true⟩ := by
  show Nat.beq _ _ = true
  rw [h]; exact Nat.beq_refl _
/-- Cells that are alike. -/
noncomputable def rp (n : Nat) (v : SV) : List SV := Nat.rec (motive := fun _ => List SV) [] (fun _ ih => v :: ih) n
noncomputable def ap (a b : List SV) : List SV := List.rec (motive := fun _ => List SV) b (fun v _ ih => v :: ih) a
def rl (l : List Nat) (i : Nat) : Nat := l.getD i 0
/-- A look, a run: from a memory to what may come of it. -/
def Lk (b : Bool) (H : Heap) : Prop := ∀ Y : Heap → Prop, Y H → ACall Tryz.prog T5 21 #[gP] H fun v H' => hOf b v ∧ Into Y H'
def Rn8 (H H1 : Heap) : Prop := ∀ Y : Heap → Prop, Y H1 → ACall Tryz.prog T5 27 #[gP, .int .i64 8] H fun v H' => (∃ j, v = .int .i64 j ∧ j ≠ 0) ∧ Into Y H'
/-- A guest that goes round, eight by eight, from two runs on; near its end it may take one run more. -/
def rndX (A0 A1 AG A6 A7 AE : TBs) (ρs ρ1 ρ6 ρ7 ρe : Nat → Nat) (ρg : Nat → Nat → Nat) (n r : Nat) (S : Heap) : Prop :=
  (S = tbH A0 ρs ∧ r = (n - 14) / 8 + 3) ∨ (S = tbH A1 ρ1 ∧ r = (n - 14) / 8 + 2) ∨ (∃ c, 16 ≤ c ∧ c ≤ n ∧ S = tbH AG (ρg c) ∧ r = (n - c + 2) / 8 + 1) ∨ (S = tbH A6 ρ6 ∧ r = 1) ∨ (S = tbH A7 ρ7 ∧ r = 1) ∨ (S = tbH AE ρe ∧ r = 0)
theorem rnd_fam {A0 A1 AG A6 A7 AE : TBs} {ρs ρ1 ρ6 ρ7 ρe : Nat → Nat} {ρg : Nat → Nat → Nat} {n : Nat} (hn : 16 ≤ n)
    (l0 : Lk false (tbH A0 ρs)) (l1 : Lk false (tbH A1 ρ1)) (lg : ∀ c, 16 ≤ c → c ≤ n → Lk false (tbH AG (ρg c))) (l6 : Lk false (tbH A6 ρ6)) (l7 : Lk false (tbH A7 ρ7)) (le : Lk true (tbH AE ρe))
    (p0 : Rn8 (tbH A0 ρs) (tbH A1 ρ1)) (p1 : Rn8 (tbH A1 ρ1) (tbH AG (ρg 16))) (pg : ∀ c, 16 ≤ c → c + 8 ≤ n → Rn8 (tbH AG (ρg c)) (tbH AG (ρg (c + 8)))) (pe : ∀ c, 16 ≤ c → c ≤ n → n < c + 6 → Rn8 (tbH AG (ρg c)) (tbH AE ρe))
    (p6 : ∀ c, 16 ≤ c → n = c + 6 → Rn8 (tbH AG (ρg c)) (tbH A6 ρ6)) (p7 : ∀ c, 16 ≤ c → n = c + 7 → Rn8 (tbH AG (ρg c)) (tbH A7 ρ7)) (h6 : Rn8 (tbH A6 ρ6) (tbH AE ρe)) (h7 : Rn8 (tbH A7 ρ7) (tbH AE ρe)) :
    Fam (rndX A0 A1 AG A6 A7 AE ρs ρ1 ρ6 ρ7 ρe ρg n) where
  wf := fun r S h => by
    rcases h with ⟨rfl, _⟩ | ⟨rfl, _⟩ | ⟨c, _, _, rfl, _⟩ | ⟨rfl, _⟩ | ⟨rfl, _⟩ | ⟨rfl, _⟩ <;> exact ⟨tbH_wf _ _, fun b hb => tbH_wr hb⟩
  st := fun r S h => by
    have h0 := h
    have hb : ∀ q, r = q + 1 → (r == 0) = false := fun q e => by subst e; rfl
    rcases h with ⟨rfl, hr⟩ | ⟨rfl, hr⟩ | ⟨c, h1, h2, rfl, hr⟩ | ⟨rfl, hr⟩ | ⟨rfl, hr⟩ | ⟨rfl, hr⟩
    · rw [hb _ (show r = ((n - 14) / 8 + 2) + 1 by omega)]; exact l0 _ h0
    · rw [hb _ (show r = ((n - 14) / 8 + 1) + 1 by omega)]; exact l1 _ h0
    · rw [hb _ hr]; exact lg c h1 h2 _ h0
    · rw [hb 0 hr]; exact l6 _ h0
    · rw [hb 0 hr]; exact l7 _ h0
    · subst hr; exact le _ h0
  run := fun r S h => by
    rcases h with ⟨rfl, hr⟩ | ⟨rfl, hr⟩ | ⟨c, h1, h2, rfl, hr⟩ | ⟨rfl, hr⟩ | ⟨rfl, hr⟩ | ⟨rfl, hr⟩
    · exact p0 _ (.inr (.inl ⟨rfl, by omega⟩))
    · exact p1 _ (.inr (.inr (.inl ⟨16, Nat.le_refl _, hn, rfl, by omega⟩)))
    · by_cases hc : c + 8 ≤ n
      · exact pg c h1 hc _ (.inr (.inr (.inl ⟨c + 8, by omega, hc, rfl, by omega⟩)))
      · by_cases c6 : n = c + 6
        · exact p6 c h1 c6 _ (.inr (.inr (.inr (.inl ⟨rfl, by omega⟩))))
        · by_cases c7 : n = c + 7
          · exact p7 c h1 c7 _ (.inr (.inr (.inr (.inr (.inl ⟨rfl, by omega⟩)))))
          · exact pe c h1 h2 (by omega) _ (.inr (.inr (.inr (.inr (.inr ⟨rfl, by omega⟩)))))
    · exact h6 _ (.inr (.inr (.inr (.inr (.inr ⟨rfl, by omega⟩)))))
    · exact h7 _ (.inr (.inr (.inr (.inr (.inr ⟨rfl, by omega⟩)))))
    · cases hr
end Tp
end Go.Proofs.YthmcpmdohmfeiaaGreatDoor
