/- Words that are not known: what comes of two of them, bit by bit. -/
import Derived.Test.YthmcpmdohmfeiaaGreatDoorEvWa
namespace Go.Ev
open Go
set_option linter.unusedVariables false
set_option linter.unusedSimpArgs false
def semZ : Z4 → Nat → Nat → Nat
  | .or, a, b => a ||| b
  | .and, a, b => a &&& b
  | .xor, a, b => a ^^^ b
  | .add, a, b => a + b
theorem or_cat (a b x y m : Nat) (ha : a < 2 ^ m) (hb : b < 2 ^ m) : (a + 2 ^ m * x) ||| (b + 2 ^ m * y) = (a ||| b) + 2 ^ m * (x ||| y) := by
  refine Nat.eq_of_testBit_eq fun i => ?_
  rw [Nat.testBit_or, Nat.add_comm a, Nat.add_comm b, Nat.add_comm (a ||| b), Nat.testBit_two_pow_mul_add _ ha, Nat.testBit_two_pow_mul_add _ hb, Nat.testBit_two_pow_mul_add _ (Nat.or_lt_two_pow ha hb)]
  split <;> rw [Nat.testBit_or]
theorem and_cat (a b x y m : Nat) (ha : a < 2 ^ m) (hb : b < 2 ^ m) : (a + 2 ^ m * x) &&& (b + 2 ^ m * y) = (a &&& b) + 2 ^ m * (x &&& y) := by
  refine Nat.eq_of_testBit_eq fun i => ?_
  rw [Nat.testBit_and, Nat.add_comm a, Nat.add_comm b, Nat.add_comm (a &&& b), Nat.testBit_two_pow_mul_add _ ha, Nat.testBit_two_pow_mul_add _ hb, Nat.testBit_two_pow_mul_add _ (Nat.and_lt_two_pow a hb)]
  split <;> rw [Nat.testBit_and]
theorem xor_cat (a b x y m : Nat) (ha : a < 2 ^ m) (hb : b < 2 ^ m) : (a + 2 ^ m * x) ^^^ (b + 2 ^ m * y) = (a ^^^ b) + 2 ^ m * (x ^^^ y) := by
  refine Nat.eq_of_testBit_eq fun i => ?_
  rw [Nat.testBit_xor, Nat.add_comm a, Nat.add_comm b, Nat.add_comm (a ^^^ b), Nat.testBit_two_pow_mul_add _ ha, Nat.testBit_two_pow_mul_add _ hb, Nat.testBit_two_pow_mul_add _ (Nat.xor_lt_two_pow ha hb)]
  split <;> rw [Nat.testBit_xor]
theorem semZ_cat (z : Z4) (a b x y m : Nat) (ha : a < 2 ^ m) (hb : b < 2 ^ m) : semZ z (a + 2 ^ m * x) (b + 2 ^ m * y) = semZ z a b + 2 ^ m * semZ z x y := by
  cases z
  · exact or_cat a b x y m ha hb
  · exact and_cat a b x y m ha hb
  · exact xor_cat a b x y m ha hb
  · simp only [semZ, Nat.mul_add]; omega
theorem or_of_and (a b : Nat) (h : a &&& b = 0) : a ||| b = a + b := by
  have ha : a < 2 ^ (a + b + 1) := Nat.lt_of_lt_of_le Nat.lt_two_pow_self (Nat.pow_le_pow_right (by omega) (by omega))
  have hb : b < 2 ^ (a + b + 1) := Nat.lt_of_lt_of_le Nat.lt_two_pow_self (Nat.pow_le_pow_right (by omega) (by omega))
  have hab : a + b < 2 ^ (a + b + 1) := Nat.lt_of_lt_of_le Nat.lt_two_pow_self (Nat.pow_le_pow_right (by omega) (by omega))
  have key := BitVec.add_eq_or_of_and_eq_zero (BitVec.ofNat (a + b + 1) a) (BitVec.ofNat (a + b + 1) b) (by
    apply BitVec.eq_of_toNat_eq
    simp only [BitVec.toNat_and, BitVec.toNat_ofNat, Nat.mod_eq_of_lt ha, Nat.mod_eq_of_lt hb, h]
    simp)
  have := congrArg BitVec.toNat key
  simp only [BitVec.toNat_add, BitVec.toNat_or, BitVec.toNat_ofNat, Nat.mod_eq_of_lt ha, Nat.mod_eq_of_lt hb, Nat.mod_eq_of_lt hab] at this
  exact this.symm
theorem bitZ_sem {z : Z4} {a b : Nat} (h : okZ z a b = true) : bitZ z a b = semZ z a b := by
  cases z <;> try rfl
  simp only [okZ, Nat.beq_eq] at h
  exact or_of_and a b h
theorem semZ_comm (z : Z4) (a b : Nat) : semZ z a b = semZ z b a := by
  cases z
  · exact Nat.or_comm _ _
  · exact Nat.and_comm _ _
  · exact Nat.xor_comm _ _
  · exact Nat.add_comm _ _
theorem semZ_zero (z : Z4) (b : Nat) : semZ z 0 b = (match z with | .and => 0 | _ => b) := by
  cases z <;> simp [semZ]
theorem bitZ_lt {z : Z4} {a b m : Nat} (ha : a < 2 ^ m) (hb : b < 2 ^ m) : bitZ z a b < 2 ^ m := by
  cases z
  · exact Nat.or_lt_two_pow ha hb
  · exact Nat.and_lt_two_pow a hb
  · exact Nat.xor_lt_two_pow ha hb
  · exact Nat.or_lt_two_pow ha hb
theorem mixZ_sound (ρ : Nat → Nat) {z : Z4} {c d : Nat} {s p : Seg} (hw : s.w = d) (h : mixZ z c d s = some p) : p.w = d ∧ p.val ρ = semZ z c (s.val ρ) := by
  have hv := Seg.val_lt ρ s
  rw [hw] at hv
  unfold mixZ at h
  cases h0 : c.beq 0
  · rw [h0] at h
    simp only [cond_false] at h
    cases h1 : c.beq (2 ^ d - 1)
    · rw [h1] at h; cases h
    · rw [h1] at h
      simp only [cond_true] at h
      have hc := Nat.eq_of_beq_eq_true h1
      cases z <;> simp only [Option.some.injEq] at h <;> first | (cases h; done) | skip
      · subst h
        refine ⟨rfl, ?_⟩
        subst hc
        simp only [Seg.val, semZ]
        rw [Nat.mod_eq_of_lt (by have := Nat.two_pow_pos d; omega)]
        refine Nat.eq_of_testBit_eq fun i => ?_
        rw [Nat.testBit_or, Nat.testBit_two_pow_sub_one]
        by_cases hi : i < d
        · simp [hi]
        · have := Nat.testBit_lt_two_pow (Nat.lt_of_lt_of_le hv (Nat.pow_le_pow_right (by omega) (by omega : d ≤ i)))
          simp [this]
      · subst h
        refine ⟨hw, ?_⟩
        subst hc
        simp only [semZ]
        rw [Nat.and_comm, Nat.and_two_pow_sub_one_eq_mod, Nat.mod_eq_of_lt hv]
  · rw [h0] at h
    simp only [cond_true] at h
    have hc := Nat.eq_of_beq_eq_true h0
    subst hc
    rw [semZ_zero]
    cases z <;> simp only [Option.some.injEq] at h <;> subst h
    · exact ⟨hw, rfl⟩
    · exact ⟨rfl, by simp [Seg.val]⟩
    · exact ⟨hw, rfl⟩
    · exact ⟨hw, rfl⟩
theorem sameZ_sound (ρ : Nat → Nat) {z : Z4} {s t p : Seg} (h : sameZ z s t = some p) : p.w = s.w ∧ p.val ρ = semZ z (s.val ρ) (t.val ρ) := by
  unfold sameZ at h
  cases he : s.eq t
  · rw [he] at h; cases h
  · rw [he] at h
    have := Seg.eq_sound _ _ he
    subst this
    simp only [cond_true] at h
    cases z <;> simp only [Option.some.injEq] at h <;> first | (cases h; done) | skip
    · subst h; exact ⟨rfl, (Nat.or_self _).symm⟩
    · subst h; exact ⟨rfl, (Nat.and_self _).symm⟩
    · subst h; exact ⟨rfl, by simp [Seg.val, semZ]⟩
theorem split_ev (ρ : Nat → Nat) {s : Seg} {r : W} {d : Nat} (h : d ≤ s.w) : evW ρ (s :: r) = (s.take d).val ρ + 2 ^ d * evW ρ (ncons (s.drop d) r) := by
  rw [ncons_ev, Seg.val_take ρ h, Seg.val_drop ρ h, Seg.w_drop]
  simp only [evW]
  have h1 := Nat.mod_add_div (s.val ρ) (2 ^ d)
  have h2 : 2 ^ s.w = 2 ^ d * 2 ^ (s.w - d) := by rw [← Nat.pow_add]; congr 1; omega
  rw [Nat.mul_add, ← Nat.mul_assoc, ← h2]
  omega
theorem runF_le : ∀ (f b n : Nat), runF f b n ≤ f := by
  intro f
  induction f with
  | zero => intro b n; exact Nat.le_refl _
  | succ f ih =>
    intro b n
    unfold runF
    cases (n % 2).beq b
    · exact Nat.zero_le _
    · have := ih b (n / 2); simp only [cond_true]; omega
theorem step_ev (ρ : Nat → Nat) (z : Z4) {s t p : Seg} {r u q : W} {d : Nat} (hs : d ≤ s.w) (ht : d ≤ t.w) (hp : p.w = d) (hpv : p.val ρ = semZ z ((s.take d).val ρ) ((t.take d).val ρ)) (hq : evW ρ q = semZ z (evW ρ (ncons (s.drop d) r)) (evW ρ (ncons (t.drop d) u))) :
    evW ρ (ncons p q) = semZ z (evW ρ (s :: r)) (evW ρ (t :: u)) := by
  rw [ncons_ev, split_ev ρ hs, split_ev ρ ht, semZ_cat, hp, hpv, hq]
  · have := Seg.val_lt ρ (s.take d); rw [Seg.w_take] at this; exact this
  · have := Seg.val_lt ρ (t.take d); rw [Seg.w_take] at this; exact this
theorem zW_sound (ρ : Nat → Nat) (z : Z4) : ∀ (f : Nat) (x y q : W), zW z f x y = some q → evW ρ q = semZ z (evW ρ x) (evW ρ y) := by
  intro f
  induction f with
  | zero => intro x y q h; simp [zW] at h
  | succ f ih =>
    intro x y q h
    cases x with
    | nil =>
      simp only [zW, Option.some.injEq] at h
      simp only [evW, semZ_zero]
      cases z <;> simp only at h ⊢ <;> subst h <;> rfl
    | cons s r =>
      cases y with
      | nil =>
        simp only [zW, Option.some.injEq] at h
        rw [semZ_comm]
        have e0 : evW ρ ([] : W) = 0 := rfl
        rw [e0, semZ_zero]
        cases z <;> simp only at h ⊢ <;> subst h <;> rfl
      | cons t u =>
        unfold zW at h
        have m1 : Nat.min s.w t.w ≤ s.w := Nat.min_le_left _ _
        have m2 : Nat.min s.w t.w ≤ t.w := Nat.min_le_right _ _
        generalize hm : Nat.min s.w t.w = m at m1 m2
        simp only [hm] at h
        cases hm0 : m.beq 0
        · rw [hm0] at h
          simp only [cond_false] at h
          have hmp : m ≠ 0 := fun e => by rw [e] at hm0; cases hm0
          have mixc : ∀ {n w : Nat} {t2 : Seg} {r2 u2 : W} {q2 : W}, m ≤ w → m ≤ t2.w → (match mixZ z (n % 2 ^ (Nat.max 1 (runF m (n % 2) n))) (Nat.max 1 (runF m (n % 2) n)) (t2.take (Nat.max 1 (runF m (n % 2) n))), zW z f (ncons ((Seg.k n w).drop (Nat.max 1 (runF m (n % 2) n))) r2) (ncons (t2.drop (Nat.max 1 (runF m (n % 2) n))) u2) with | some p, some q => some (ncons p q) | _, _ => none) = some q2 → evW ρ q2 = semZ z (evW ρ (.k n w :: r2)) (evW ρ (t2 :: u2)) := by
            intro n w t2 r2 u2 q2 h1 h2 h
            have hd := runF_le m (n % 2) n
            have hdm : Nat.max 1 (runF m (n % 2) n) ≤ m := Nat.max_le.2 ⟨by omega, hd⟩
            generalize Nat.max 1 (runF m (n % 2) n) = d at h hdm
            split at h
            · rename_i p q' hp hq
              cases h
              obtain ⟨e1, e2⟩ := mixZ_sound ρ (Seg.w_take _ _) hp
              refine step_ev ρ z (d := d) (s := .k n w) (t := t2) (by simp only [Seg.w]; omega) (by omega) e1 ?_ (ih _ _ _ hq)
              rw [e2]; simp only [Seg.take, Seg.val, Nat.mod_mod]
            · cases h
          have mixc' : ∀ {n w : Nat} {t2 : Seg} {r2 u2 : W} {q2 : W}, m ≤ w → m ≤ t2.w → (match mixZ z (n % 2 ^ (Nat.max 1 (runF m (n % 2) n))) (Nat.max 1 (runF m (n % 2) n)) (t2.take (Nat.max 1 (runF m (n % 2) n))), zW z f (ncons (t2.drop (Nat.max 1 (runF m (n % 2) n))) u2) (ncons ((Seg.k n w).drop (Nat.max 1 (runF m (n % 2) n))) r2) with | some p, some q => some (ncons p q) | _, _ => none) = some q2 → evW ρ q2 = semZ z (evW ρ (t2 :: u2)) (evW ρ (.k n w :: r2)) := by
            intro n w t2 r2 u2 q2 h1 h2 h
            have hd := runF_le m (n % 2) n
            have hdm : Nat.max 1 (runF m (n % 2) n) ≤ m := Nat.max_le.2 ⟨by omega, hd⟩
            generalize Nat.max 1 (runF m (n % 2) n) = d at h hdm
            split at h
            · rename_i p q' hp hq
              cases h
              obtain ⟨e1, e2⟩ := mixZ_sound ρ (Seg.w_take _ _) hp
              refine step_ev ρ z (d := d) (s := t2) (t := .k n w) (by omega) (by simp only [Seg.w]; omega) e1 ?_ (ih _ _ _ hq)
              rw [e2, semZ_comm]; simp only [Seg.take, Seg.val, Nat.mod_mod]
            · cases h
          split at h
          · rename_i n w n' w'
            cases hk : okZ z (n % 2 ^ m) (n' % 2 ^ m)
            · rw [hk] at h; cases h
            · rw [hk] at h
              simp only [cond_true] at h
              split at h
              · rename_i q' hq
                cases h
                refine step_ev ρ z (d := m) (s := .k n w) (t := .k n' w') m1 m2 rfl ?_ (ih _ _ _ hq)
                simp only [Seg.take, Seg.val, Nat.mod_mod]
                rw [Nat.mod_eq_of_lt (bitZ_lt (Nat.mod_lt _ (Nat.two_pow_pos _)) (Nat.mod_lt _ (Nat.two_pow_pos _)))]
                exact bitZ_sem hk
              · cases h
          · exact mixc m1 m2 h
          · exact mixc' m2 m1 h
          · split at h
            · rename_i p q' hp hq
              cases h
              obtain ⟨e1, e2⟩ := sameZ_sound ρ hp
              exact step_ev ρ z (d := m) m1 m2 (e1.trans (Seg.w_take _ _)) e2 (ih _ _ _ hq)
            · cases h
        · rw [hm0] at h
          simp only [cond_true] at h
          have hm0 := Nat.eq_of_beq_eq_true hm0
          have drop0 : ∀ {s : Seg} {r : W}, s.w = 0 → evW ρ (s :: r) = evW ρ r := fun {s r} hs => by
            have h1 := Seg.val_lt ρ s
            rw [hs] at h1
            simp only [evW, hs]; omega
          cases hs0 : s.w.beq 0
          · rw [hs0] at h
            simp only [cond_false] at h
            have hs : s.w ≠ 0 := fun e => by rw [e] at hs0; cases hs0
            have ht : t.w = 0 := by
              have : m = s.w ∨ m = t.w := by rw [← hm]; rcases Nat.le_total s.w t.w with h | h; exact .inl (Nat.min_eq_left h); exact .inr (Nat.min_eq_right h)
              omega
            rw [drop0 ht]; exact ih _ _ _ h
          · rw [hs0] at h
            rw [drop0 (Nat.eq_of_beq_eq_true hs0)]; exact ih _ _ _ h
/-- Do two words differ, at a piece that is known of both? -/
def difF : Nat → W → W → Bool
  | 0, _, _ => false
  | f + 1, [], y => Nat.blt 0 (loW y)
  | f + 1, x, [] => Nat.blt 0 (loW x)
  | f + 1, s :: r, t :: u =>
    let m := Nat.min s.w t.w
    (match s, t with | .k n _, .k n' _ => !((n % 2 ^ m).beq (n' % 2 ^ m)) | _, _ => false) || difF f (ncons (s.drop m) r) (ncons (t.drop m) u)
theorem difF_sound (ρ : Nat → Nat) : ∀ (f : Nat) (x y : W), difF f x y = true → evW ρ x ≠ evW ρ y := by
  intro f
  induction f with
  | zero => intro x y h; cases h
  | succ f ih =>
    intro x y h
    cases x with
    | nil =>
      have h1 : 0 < loW y := by
        simp only [difF] at h
        exact Nat.le_of_ble_eq_true h
      have := (boundsW ρ y).1
      simp only [evW]; omega
    | cons s r =>
      cases y with
      | nil =>
        have h1 : 0 < loW (s :: r) := by
          simp only [difF] at h
          exact Nat.le_of_ble_eq_true h
        have := (boundsW ρ (s :: r)).1
        have e0 : evW ρ ([] : W) = 0 := rfl
        rw [e0]; omega
      | cons t u =>
        unfold difF at h
        have m1 : Nat.min s.w t.w ≤ s.w := Nat.min_le_left _ _
        have m2 : Nat.min s.w t.w ≤ t.w := Nat.min_le_right _ _
        generalize Nat.min s.w t.w = m at m1 m2 h
        simp only [Bool.or_eq_true] at h
        intro he
        rw [split_ev ρ m1, split_ev ρ m2] at he
        have l1 := Seg.val_lt ρ (s.take m)
        have l2 := Seg.val_lt ρ (t.take m)
        rw [Seg.w_take] at l1 l2
        have e1 : (s.take m).val ρ = (t.take m).val ρ := by
          have := congrArg (· % 2 ^ m) he
          simpa [Nat.add_mul_mod_self_left, Nat.mod_eq_of_lt l1, Nat.mod_eq_of_lt l2] using this
        rcases h with h | h
        · split at h
          · simp only [Bool.not_eq_true'] at h
            simp only [Seg.take, Seg.val, Nat.mod_mod] at e1
            rw [e1] at h
            simp at h
          · cases h
        · refine ih _ _ h ?_
          rw [e1] at he
          have := Nat.add_left_cancel he
          exact Nat.eq_of_mul_eq_mul_left (Nat.two_pow_pos _) this
end Go.Ev
