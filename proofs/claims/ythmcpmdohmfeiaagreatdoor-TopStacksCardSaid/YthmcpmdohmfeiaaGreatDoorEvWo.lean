/- Rows of eight rows of eight ..: what the kernel reads and writes at a place that it knows. -/
import Derived.Test.YthmcpmdohmfeiaaGreatDoorEvWb
namespace Go.Ev
open Go
set_option linter.unusedVariables false
set_option linter.unusedSimpArgs false
set_option linter.constructorNameAsVariable false
noncomputable section
def ifK (b : Bool) (x y : Bool) : Bool := Bool.rec (motive := fun _ => Bool) y x b
theorem ifK_true {b x y : Bool} (h : ifK b x y = true) : (b = true ∧ x = true) ∨ (b = false ∧ y = true) := by
  cases b
  · exact .inr ⟨rfl, h⟩
  · exact .inl ⟨rfl, h⟩
theorem ifF_true {a b : Bool} (h : ifK a b false = true) : a = true ∧ b = true := by
  cases a
  · cases h
  · exact ⟨rfl, h⟩
/-- A number that is told in full before it goes on. -/
def fN (n : Nat) (K : Nat → Bool) : Bool := Nat.rec (motive := fun _ => Bool) false (fun m _ => K m) (Nat.succ n)
theorem fN_eq (n : Nat) (K : Nat → Bool) : fN n K = K n := rfl
inductive N8 (α : Type) where
  | mk (a0 a1 a2 a3 a4 a5 a6 a7 : α)
inductive D8 where
  | d0 | d1 | d2 | d3 | d4 | d5 | d6 | d7
/-- What is worked out once, and kept by the kernel. -/
inductive Bx (α : Type) where
  | mk (f : α)
def digF (n : Nat) : D8 := match n with
  | 0 => .d0 | 1 => .d1 | 2 => .d2 | 3 => .d3 | 4 => .d4 | 5 => .d5 | 6 => .d6 | _ => .d7
def dig (n : Nat) : D8 := digF (Nat.mod n 8)
section
variable {α : Type}
def get8 (d : D8) (t : N8 α) : α := match t with
  | .mk a0 a1 a2 a3 a4 a5 a6 a7 => match d with
    | .d0 => a0 | .d1 => a1 | .d2 => a2 | .d3 => a3 | .d4 => a4 | .d5 => a5 | .d6 => a6 | .d7 => a7
def set8 (d : D8) (t : N8 α) (v : α) : N8 α := match t with
  | .mk a0 a1 a2 a3 a4 a5 a6 a7 => match d with
    | .d0 => .mk v a1 a2 a3 a4 a5 a6 a7
    | .d1 => .mk a0 v a2 a3 a4 a5 a6 a7
    | .d2 => .mk a0 a1 v a3 a4 a5 a6 a7
    | .d3 => .mk a0 a1 a2 v a4 a5 a6 a7
    | .d4 => .mk a0 a1 a2 a3 v a5 a6 a7
    | .d5 => .mk a0 a1 a2 a3 a4 v a6 a7
    | .d6 => .mk a0 a1 a2 a3 a4 a5 v a7
    | .d7 => .mk a0 a1 a2 a3 a4 a5 a6 v
theorem get_set8_same (d : D8) (t : N8 α) (v : α) : get8 d (set8 d t v) = v := by cases t; cases d <;> rfl
theorem get_set8_other {d e : D8} (h : d ≠ e) (t : N8 α) (v : α) : get8 d (set8 e t v) = get8 d t := by
  cases t; cases d <;> cases e <;> first | rfl | exact absurd rfl h
def pj (d : D8) : Bx (N8 α → α) := D8.rec (motive := fun _ => Bx (N8 α → α)) (.mk fun t => t.1) (.mk fun t => t.2) (.mk fun t => t.3) (.mk fun t => t.4) (.mk fun t => t.5) (.mk fun t => t.6) (.mk fun t => t.7) (.mk fun t => t.8) d
theorem pj_eq (d : D8) : (pj d : Bx (N8 α → α)) = .mk (get8 d) := by
  cases d <;> exact congrArg Bx.mk (funext fun t => by cases t; rfl)
abbrev Up (α : Type) := (α → (α → Bool) → Bool) → N8 α → (N8 α → Bool) → Bool
def up8 (d : D8) : Bx (Up α) := D8.rec (motive := fun _ => Bx (Up α))
  (.mk fun F t K => N8.rec (motive := fun _ => Bool) (fun a0 a1 a2 a3 a4 a5 a6 a7 => F a0 fun v => K (.mk v a1 a2 a3 a4 a5 a6 a7)) t)
  (.mk fun F t K => N8.rec (motive := fun _ => Bool) (fun a0 a1 a2 a3 a4 a5 a6 a7 => F a1 fun v => K (.mk a0 v a2 a3 a4 a5 a6 a7)) t)
  (.mk fun F t K => N8.rec (motive := fun _ => Bool) (fun a0 a1 a2 a3 a4 a5 a6 a7 => F a2 fun v => K (.mk a0 a1 v a3 a4 a5 a6 a7)) t)
  (.mk fun F t K => N8.rec (motive := fun _ => Bool) (fun a0 a1 a2 a3 a4 a5 a6 a7 => F a3 fun v => K (.mk a0 a1 a2 v a4 a5 a6 a7)) t)
  (.mk fun F t K => N8.rec (motive := fun _ => Bool) (fun a0 a1 a2 a3 a4 a5 a6 a7 => F a4 fun v => K (.mk a0 a1 a2 a3 v a5 a6 a7)) t)
  (.mk fun F t K => N8.rec (motive := fun _ => Bool) (fun a0 a1 a2 a3 a4 a5 a6 a7 => F a5 fun v => K (.mk a0 a1 a2 a3 a4 v a6 a7)) t)
  (.mk fun F t K => N8.rec (motive := fun _ => Bool) (fun a0 a1 a2 a3 a4 a5 a6 a7 => F a6 fun v => K (.mk a0 a1 a2 a3 a4 a5 v a7)) t)
  (.mk fun F t K => N8.rec (motive := fun _ => Bool) (fun a0 a1 a2 a3 a4 a5 a6 a7 => F a7 fun v => K (.mk a0 a1 a2 a3 a4 a5 a6 v)) t) d
theorem up8_eq (d : D8) : (up8 d : Bx (Up α)) = .mk (fun F t K => F (get8 d t) fun v => K (set8 d t v)) := by
  cases d <;> exact congrArg Bx.mk (funext fun F => funext fun t => funext fun K => by cases t; rfl)
end
theorem digF_inj : ∀ a b : Nat, a < 8 → b < 8 → digF a = digF b → a = b := by
  intro a b ha hb h
  have : ∀ a b : Fin 8, digF a.1 = digF b.1 → a.1 = b.1 := by
    intro a b
    match a, b with
    | ⟨a, ha⟩, ⟨b, hb⟩ =>
      match a, b, ha, hb with
      | 0, 0, _, _ | 1, 1, _, _ | 2, 2, _, _ | 3, 3, _, _ | 4, 4, _, _ | 5, 5, _, _ | 6, 6, _, _ | 7, 7, _, _ => intro _; rfl
      | 0, 1, _, _ | 0, 2, _, _ | 0, 3, _, _ | 0, 4, _, _ | 0, 5, _, _ | 0, 6, _, _ | 0, 7, _, _ => intro h; cases h
      | 1, 0, _, _ | 1, 2, _, _ | 1, 3, _, _ | 1, 4, _, _ | 1, 5, _, _ | 1, 6, _, _ | 1, 7, _, _ => intro h; cases h
      | 2, 0, _, _ | 2, 1, _, _ | 2, 3, _, _ | 2, 4, _, _ | 2, 5, _, _ | 2, 6, _, _ | 2, 7, _, _ => intro h; cases h
      | 3, 0, _, _ | 3, 1, _, _ | 3, 2, _, _ | 3, 4, _, _ | 3, 5, _, _ | 3, 6, _, _ | 3, 7, _, _ => intro h; cases h
      | 4, 0, _, _ | 4, 1, _, _ | 4, 2, _, _ | 4, 3, _, _ | 4, 5, _, _ | 4, 6, _, _ | 4, 7, _, _ => intro h; cases h
      | 5, 0, _, _ | 5, 1, _, _ | 5, 2, _, _ | 5, 3, _, _ | 5, 4, _, _ | 5, 6, _, _ | 5, 7, _, _ => intro h; cases h
      | 6, 0, _, _ | 6, 1, _, _ | 6, 2, _, _ | 6, 3, _, _ | 6, 4, _, _ | 6, 5, _, _ | 6, 7, _, _ => intro h; cases h
      | 7, 0, _, _ | 7, 1, _, _ | 7, 2, _, _ | 7, 3, _, _ | 7, 4, _, _ | 7, 5, _, _ | 7, 6, _, _ => intro h; cases h
      | a + 8, _, ha, _ => omega
      | _, b + 8, _, hb => omega
  exact this ⟨a, ha⟩ ⟨b, hb⟩ h
theorem dig_inj {a b : Nat} (h : dig a = dig b) : a % 8 = b % 8 := digF_inj _ _ (Nat.mod_lt _ (by omega)) (Nat.mod_lt _ (by omega)) h
theorem dig_mod {a b : Nat} (h : a % 8 = b % 8) : dig a = dig b := congrArg digF h
/-- Rows of rows, so deep. -/
@[reducible] def Nest (k : Nat) (α : Type) : Type := Nat.rec (motive := fun _ => Type) α (fun _ T => N8 T) k
section
variable {α : Type}
def nAt (i : Nat) (k : Nat) : Nest k α → α := Nat.rec (motive := fun k => Nest k α → α) (fun t => t) (fun k ih t => ih (get8 (dig (Nat.div i (Nat.pow 8 k))) t)) k
def nSet (i : Nat) (v : α) (k : Nat) : Nest k α → Nest k α := Nat.rec (motive := fun k => Nest k α → Nest k α) (fun _ => v) (fun k ih t => set8 (dig (Nat.div i (Nat.pow 8 k))) t (ih (get8 (dig (Nat.div i (Nat.pow 8 k))) t))) k
def nRep (v : α) (k : Nat) : Nest k α := Nat.rec (motive := fun k => Nest k α) v (fun k ih => .mk ih ih ih ih ih ih ih ih) k
theorem nAt_s (i k : Nat) (t : Nest (k + 1) α) : nAt i (k + 1) t = nAt i k (get8 (dig (i / 8 ^ k)) t) := rfl
theorem nSet_s (i k : Nat) (v : α) (t : Nest (k + 1) α) : nSet i v (k + 1) t = set8 (dig (i / 8 ^ k)) t (nSet i v k (get8 (dig (i / 8 ^ k)) t)) := rfl
theorem nAt_nSet (i j : Nat) (v : α) : ∀ (k : Nat) (t : Nest k α), nAt j k (nSet i v k t) = if j % 8 ^ k = i % 8 ^ k then v else nAt j k t := by
  intro k
  induction k with
  | zero => intro t; rw [if_pos (by simp [Nat.mod_one])]; rfl
  | succ k ih =>
    intro t
    rw [nAt_s, nSet_s, nAt_s, Nat.pow_succ, Nat.mod_mul, Nat.mod_mul]
    have hj : j % 8 ^ k < 8 ^ k := Nat.mod_lt _ (Nat.pow_pos (by omega))
    have hi : i % 8 ^ k < 8 ^ k := Nat.mod_lt _ (Nat.pow_pos (by omega))
    by_cases h : dig (j / 8 ^ k) = dig (i / 8 ^ k)
    · rw [h, get_set8_same, ih]
      have hd := dig_inj h
      rw [hd]
      by_cases e : j % 8 ^ k = i % 8 ^ k
      · rw [if_pos e, if_pos (by rw [e])]
      · rw [if_neg e, if_neg (by omega)]
    · rw [get_set8_other h]
      have hd : ¬ j / 8 ^ k % 8 = i / 8 ^ k % 8 := fun e => h (dig_mod e)
      rw [if_neg]
      intro e
      apply hd
      have e1 : (j % 8 ^ k + 8 ^ k * (j / 8 ^ k % 8)) / 8 ^ k = (i % 8 ^ k + 8 ^ k * (i / 8 ^ k % 8)) / 8 ^ k := by rw [e]
      rw [Nat.add_mul_div_left _ _ (by omega), Nat.add_mul_div_left _ _ (by omega), Nat.div_eq_of_lt hj, Nat.div_eq_of_lt hi] at e1
      omega
theorem nAt_rep (i : Nat) (v : α) : ∀ k, nAt i k (nRep v k) = v := by
  intro k
  induction k with
  | zero => rfl
  | succ k ih =>
    rw [nAt_s]
    have : get8 (dig (i / 8 ^ k)) (nRep v (k + 1)) = nRep v k := by
      show get8 _ (N8.mk _ _ _ _ _ _ _ _) = _
      cases dig (i / 8 ^ k) <;> rfl
    rw [this, ih]
/-- The way to a place, worked out once. -/
def nG (k i : Nat) : Bx (Nest k α → α) := Nat.rec (motive := fun k => Bx (Nest k α → α)) (.mk fun t => t) (fun k ih => Bx.rec (motive := fun _ => Bx (N8 (Nest k α) → α)) (fun g => Bx.rec (motive := fun _ => Bx (N8 (Nest k α) → α)) (fun f => .mk fun t => g (f t)) (pj (dig (Nat.div i (Nat.pow 8 k))))) ih) k
theorem nG_eq (k i : Nat) : (nG k i : Bx (Nest k α → α)) = .mk (nAt i k) := by
  induction k with
  | zero => rfl
  | succ k ih =>
    show (Bx.rec (motive := fun _ => Bx (N8 (Nest k α) → α)) (fun g => Bx.rec (motive := fun _ => Bx (N8 (Nest k α) → α)) (fun f => .mk fun t => g (f t)) (pj (dig (Nat.div i (Nat.pow 8 k))))) (nG k i)) = _
    rw [ih, pj_eq]; rfl
def nP (k i : Nat) : Bx (α → Nest k α → (Nest k α → Bool) → Bool) := Nat.rec (motive := fun k => Bx (α → Nest k α → (Nest k α → Bool) → Bool)) (.mk fun v _ K => K v) (fun k ih => Bx.rec (motive := fun _ => Bx (α → N8 (Nest k α) → (N8 (Nest k α) → Bool) → Bool)) (fun g => Bx.rec (motive := fun _ => Bx (α → N8 (Nest k α) → (N8 (Nest k α) → Bool) → Bool)) (fun f => .mk fun v t K => f (g v) t K) (up8 (dig (Nat.div i (Nat.pow 8 k))))) ih) k
theorem nP_eq (k i : Nat) : (nP k i : Bx (α → Nest k α → (Nest k α → Bool) → Bool)) = .mk fun v t K => K (nSet i v k t) := by
  induction k with
  | zero => rfl
  | succ k ih =>
    show (Bx.rec (motive := fun _ => Bx (α → N8 (Nest k α) → (N8 (Nest k α) → Bool) → Bool)) (fun g => Bx.rec (motive := fun _ => Bx (α → N8 (Nest k α) → (N8 (Nest k α) → Bool) → Bool)) (fun f => .mk fun v t K => f (g v) t K) (up8 (dig (Nat.div i (Nat.pow 8 k))))) (nP k i)) = _
    rw [ih, up8_eq]; rfl
end
/-! Trees that are whole -/
def full {α : Type} : Nat → (Nat → Option α) → Tr α
  | 0, _ => .lf
  | d + 1, f => .nd (full d fun k => f (2 * k + 1)) (f 0) (full d fun k => f (2 * k + 2))
theorem full_get {α : Type} : ∀ (d : Nat) (f : Nat → Option α) (b : Nat), b + 1 < 2 ^ d → (full d f).get b = f b := by
  intro d
  induction d with
  | zero => intro f b h; simp at h
  | succ d ih =>
    intro f b h
    rw [Nat.pow_succ] at h
    cases b with
    | zero => rfl
    | succ k =>
      simp only [full, Tr.get]
      cases hb : (k % 2).beq 0
      · have h1 : k % 2 = 1 := by have : ¬ k % 2 = 0 := fun e => by simp [e] at hb
                                  omega
        simp only [cond_false]
        rw [ih _ _ (by omega)]
        congr 1; omega
      · have h1 : k % 2 = 0 := by simpa using hb
        simp only [cond_true]
        rw [ih _ _ (by omega)]
        congr 1; omega
theorem full_none {α : Type} : ∀ (d : Nat) (f : Nat → Option α) (b : Nat), ¬ b + 1 < 2 ^ d → (full d f).get b = none := by
  intro d
  induction d with
  | zero => intro f b h; rfl
  | succ d ih =>
    intro f b h
    have hp : 0 < 2 ^ d := Nat.two_pow_pos d
    rw [Nat.pow_succ] at h
    cases b with
    | zero => omega
    | succ k =>
      simp only [full, Tr.get]
      cases hb : (k % 2).beq 0
      · have h1 : k % 2 = 1 := by have : ¬ k % 2 = 0 := fun e => by simp [e] at hb
                                  omega
        simp only [cond_false]
        exact ih _ _ (by omega)
      · have h1 : k % 2 = 0 := by simpa using hb
        simp only [cond_true]
        exact ih _ _ (by omega)
theorem full_putF {α : Type} : ∀ (d : Nat) (f : Nat → Option α) (b g : Nat) (v : Option α), b + 1 < 2 ^ d → b < g → Tr.putF g (full d f) b v = full d fun j => if j = b then v else f j := by
  intro d
  induction d with
  | zero => intro f b g v h; simp at h
  | succ d ih =>
    intro f b g v h hg
    rw [Nat.pow_succ] at h
    cases g with
    | zero => omega
    | succ g =>
    cases b with
    | zero =>
      simp only [full, Tr.putF, Tr.left, Tr.right]
      congr 1
    | succ k =>
      simp only [full, Tr.putF, Tr.left, Tr.right, Tr.top]
      cases hb : (k % 2).beq 0
      · have h1 : k % 2 = 1 := by have : ¬ k % 2 = 0 := fun e => by simp [e] at hb
                                  omega
        simp only [cond_false]
        rw [ih _ _ _ _ (by omega) (by omega)]
        congr 1
        · congr 1; funext j; rw [if_neg (by omega)]
        · congr 1; funext j
          by_cases e : j = k / 2
          · rw [if_pos e, if_pos (by omega)]
          · rw [if_neg e, if_neg (by omega)]
      · have h1 : k % 2 = 0 := by simpa using hb
        simp only [cond_true]
        rw [ih _ _ _ _ (by omega) (by omega)]
        congr 1
        · congr 1; funext j
          by_cases e : j = k / 2
          · rw [if_pos e, if_pos (by omega)]
          · rw [if_neg e, if_neg (by omega)]
        · congr 1; funext j; rw [if_neg (by omega)]
theorem full_put {α : Type} {d : Nat} {f : Nat → Option α} {b : Nat} {v : Option α} (h : b + 1 < 2 ^ d) : (full d f).put b v = full d fun j => if j = b then v else f j := full_putF d f b (b + 1) v h (by omega)
end
end Go.Ev
