/- Words that are not known: pieces of bits, one behind the other. -/
import Derived.Test.YthmcpmdohmfeiaaGreatDoorEvV
namespace Go.Ev
open Go
set_option linter.unusedVariables false
set_option linter.unusedSimpArgs false
/-- A piece of bits, the lowest first: a number's, an unknown's, an operation's. -/
inductive Seg where
  | k (n w : Nat)
  | v (i o w : Nat)
  | g (op : BinOp) (q : IntKind) (a b : List Seg) (o w : Nat)
  | d (a b : List Seg) (o w : Nat)
  | p (a b : List Seg) (o w : Nat)
abbrev W := List Seg
/-- What an operation makes of two numbers. -/
def gZ (op : BinOp) (q : IntKind) (a b : Nat) : Int := match (bif isShift op then ishift op q a b else ibin op q a b) with
  | some (.int _ z) => z
  | _ => 0
def Seg.w : Seg → Nat
  | .k _ w => w
  | .v _ _ w => w
  | .g _ _ _ _ _ w => w
  | .d _ _ _ w => w
  | .p _ _ _ w => w
section
variable (ρ : Nat → Nat)
mutual
def Seg.val : Seg → Nat
  | .k n w => n % 2 ^ w
  | .v i o w => ρ i / 2 ^ o % 2 ^ w
  | .g op q a b o w => (gZ op q (evW a) (evW b)).toNat / 2 ^ o % 2 ^ w
  | .d a b o w => (evW a - evW b) / 2 ^ o % 2 ^ w
  | .p a b o w => (evW a + evW b) / 2 ^ o % 2 ^ w
def evW : List Seg → Nat
  | [] => 0
  | s :: r => s.val + 2 ^ s.w * evW r
end
end
/-- The first of a piece's bits; the others. -/
def Seg.take (t : Nat) : Seg → Seg
  | .k n w => .k (n % 2 ^ t) t
  | .v i o w => .v i o t
  | .g op q a b o w => .g op q a b o t
  | .d a b o w => .d a b o t
  | .p a b o w => .p a b o t
def Seg.drop (t : Nat) : Seg → Seg
  | .k n w => .k (n % 2 ^ w / 2 ^ t) (w - t)
  | .v i o w => .v i (o + t) (w - t)
  | .g op q a b o w => .g op q a b (o + t) (w - t)
  | .d a b o w => .d a b (o + t) (w - t)
  | .p a b o w => .p a b (o + t) (w - t)
theorem Seg.val_lt (ρ : Nat → Nat) (s : Seg) : s.val ρ < 2 ^ s.w := by
  cases s <;> simp only [Seg.val, Seg.w] <;> exact Nat.mod_lt _ (Nat.two_pow_pos _)
theorem Seg.w_take (t : Nat) (s : Seg) : (s.take t).w = t := by cases s <;> rfl
theorem Seg.w_drop (t : Nat) (s : Seg) : (s.drop t).w = s.w - t := by cases s <;> rfl
theorem mod_take (x w t : Nat) (h : t ≤ w) : x % 2 ^ t = x % 2 ^ w % 2 ^ t := (Nat.mod_mod_of_dvd x (Nat.pow_dvd_pow 2 h)).symm
theorem Seg.val_take (ρ : Nat → Nat) {t : Nat} {s : Seg} (h : t ≤ s.w) : (s.take t).val ρ = s.val ρ % 2 ^ t := by
  cases s <;> simp only [Seg.take, Seg.val, Seg.w] at h ⊢ <;> first | exact mod_take _ _ _ h | (rw [Nat.mod_mod]; exact mod_take _ _ _ h)
theorem mod_drop (x o w t : Nat) (h : t ≤ w) : x / 2 ^ (o + t) % 2 ^ (w - t) = x / 2 ^ o % 2 ^ w / 2 ^ t := by
  rw [Nat.pow_add, ← Nat.div_div_eq_div_mul]
  generalize x / 2 ^ o = y
  have : 2 ^ w = 2 ^ t * 2 ^ (w - t) := by rw [← Nat.pow_add]; congr 1; omega
  rw [this, Nat.mod_mul_right_div_self]
theorem Seg.val_drop (ρ : Nat → Nat) {t : Nat} {s : Seg} (h : t ≤ s.w) : (s.drop t).val ρ = s.val ρ / 2 ^ t := by
  cases s <;> simp only [Seg.drop, Seg.val, Seg.w] at h ⊢
  case k n w =>
    have := mod_drop n 0 w t h
    simp only [Nat.zero_add, Nat.pow_zero, Nat.div_one] at this
    rw [← this, Nat.mod_mod]
  all_goals exact mod_drop _ _ _ _ h
/-! Are two the same, as they are written? -/
mutual
def Seg.eq : Seg → Seg → Bool
  | .k n w, .k m u => n.beq m && w.beq u
  | .v i o w, .v j o' u => i.beq j && o.beq o' && w.beq u
  | .g op q a b o w, .g op' q' a' b' o' u => decide (op = op') && decide (q = q') && o.beq o' && w.beq u && wEq a a' && wEq b b'
  | .d a b o w, .d a' b' o' u => o.beq o' && w.beq u && wEq a a' && wEq b b'
  | .p a b o w, .p a' b' o' u => o.beq o' && w.beq u && wEq a a' && wEq b b'
  | _, _ => false
def wEq : List Seg → List Seg → Bool
  | [], [] => true
  | s :: r, t :: u => s.eq t && wEq r u
  | _, _ => false
end
mutual
theorem Seg.eq_sound : ∀ (s t : Seg), s.eq t = true → s = t
  | .k n w, t, h => by cases t <;> simp only [Seg.eq, Bool.and_eq_true, Nat.beq_eq] at h <;> first | (cases h; done) | skip
                       obtain ⟨rfl, rfl⟩ := h; rfl
  | .v i o w, t, h => by cases t <;> simp only [Seg.eq, Bool.and_eq_true, Nat.beq_eq] at h <;> first | (cases h; done) | skip
                         obtain ⟨⟨rfl, rfl⟩, rfl⟩ := h; rfl
  | .g op q a b o w, t, h => by
    cases t <;> simp only [Seg.eq, Bool.and_eq_true, Nat.beq_eq, decide_eq_true_eq] at h <;> first | (cases h; done) | skip
    obtain ⟨⟨⟨⟨⟨rfl, rfl⟩, rfl⟩, rfl⟩, h1⟩, h2⟩ := h
    rw [wEq_sound _ _ h1, wEq_sound _ _ h2]
  | .d a b o w, t, h => by
    cases t <;> simp only [Seg.eq, Bool.and_eq_true, Nat.beq_eq, decide_eq_true_eq] at h <;> first | (cases h; done) | skip
    obtain ⟨⟨⟨rfl, rfl⟩, h1⟩, h2⟩ := h
    rw [wEq_sound _ _ h1, wEq_sound _ _ h2]
  | .p a b o w, t, h => by
    cases t <;> simp only [Seg.eq, Bool.and_eq_true, Nat.beq_eq, decide_eq_true_eq] at h <;> first | (cases h; done) | skip
    obtain ⟨⟨⟨rfl, rfl⟩, h1⟩, h2⟩ := h
    rw [wEq_sound _ _ h1, wEq_sound _ _ h2]
theorem wEq_sound : ∀ (s t : List Seg), wEq s t = true → s = t
  | [], [], _ => rfl
  | [], _ :: _, h => by simp [wEq] at h
  | _ :: _, [], h => by simp [wEq] at h
  | s :: r, t :: u, h => by
    simp only [wEq, Bool.and_eq_true] at h
    rw [Seg.eq_sound _ _ h.1, wEq_sound _ _ h.2]
end
/-- Two pieces that are one: the second goes on where the first ends. -/
def Seg.join : Seg → Seg → Option Seg
  | .k n w, .k m u => some (.k (n % 2 ^ w + 2 ^ w * (m % 2 ^ u)) (w + u))
  | .v i o w, .v j o' u => bif i.beq j && o'.beq (o + w) then some (.v i o (w + u)) else none
  | .g op q a b o w, .g op' q' a' b' o' u => bif o'.beq (o + w) && (decide (op = op') && decide (q = q') && wEq a a' && wEq b b') then some (.g op q a b o (w + u)) else none
  | .d a b o w, .d a' b' o' u => bif o'.beq (o + w) && (wEq a a' && wEq b b') then some (.d a b o (w + u)) else none
  | .p a b o w, .p a' b' o' u => bif o'.beq (o + w) && (wEq a a' && wEq b b') then some (.p a b o (w + u)) else none
  | _, _ => none
theorem mod_join (x o w u : Nat) : x / 2 ^ o % 2 ^ (w + u) = x / 2 ^ o % 2 ^ w + 2 ^ w * (x / 2 ^ (o + w) % 2 ^ u) := by
  rw [Nat.pow_add, Nat.pow_add, ← Nat.div_div_eq_div_mul, Nat.mod_mul]
theorem Seg.join_sound (ρ : Nat → Nat) {s t r : Seg} (h : s.join t = some r) : r.w = s.w + t.w ∧ r.val ρ = s.val ρ + 2 ^ s.w * t.val ρ := by
  unfold Seg.join at h
  split at h
  · cases h
    refine ⟨rfl, ?_⟩
    simp only [Seg.val, Seg.w]
    rename_i n w m u
    refine Nat.mod_eq_of_lt ?_
    have h1 : n % 2 ^ w < 2 ^ w := Nat.mod_lt _ (Nat.two_pow_pos _)
    have h2 : m % 2 ^ u < 2 ^ u := Nat.mod_lt _ (Nat.two_pow_pos _)
    rw [Nat.pow_add]
    calc n % 2 ^ w + 2 ^ w * (m % 2 ^ u) < 2 ^ w + 2 ^ w * (m % 2 ^ u) := by omega
      _ = 2 ^ w * (m % 2 ^ u + 1) := by rw [Nat.mul_add, Nat.mul_one, Nat.add_comm]
      _ ≤ 2 ^ w * 2 ^ u := Nat.mul_le_mul_left _ h2
  · rename_i i o w j o' u
    cases hb : i.beq j && o'.beq (o + w) <;> rw [hb] at h <;> cases h
    simp only [Bool.and_eq_true, Nat.beq_eq] at hb
    obtain ⟨rfl, rfl⟩ := hb
    exact ⟨rfl, mod_join _ _ _ _⟩
  · rename_i op q a b o w op' q' a' b' o' u
    cases hb : o'.beq (o + w) && (decide (op = op') && decide (q = q') && wEq a a' && wEq b b') <;> rw [hb] at h <;> cases h
    simp only [Bool.and_eq_true, Nat.beq_eq, decide_eq_true_eq] at hb
    obtain ⟨rfl, ⟨⟨rfl, rfl⟩, h1⟩, h2⟩ := hb
    obtain rfl := wEq_sound _ _ h1
    obtain rfl := wEq_sound _ _ h2
    exact ⟨rfl, mod_join _ _ _ _⟩
  · rename_i a b o w a' b' o' u
    cases hb : o'.beq (o + w) && (wEq a a' && wEq b b') <;> rw [hb] at h <;> cases h
    simp only [Bool.and_eq_true, Nat.beq_eq, decide_eq_true_eq] at hb
    obtain ⟨rfl, h1, h2⟩ := hb
    obtain rfl := wEq_sound _ _ h1
    obtain rfl := wEq_sound _ _ h2
    exact ⟨rfl, mod_join _ _ _ _⟩
  · rename_i a b o w a' b' o' u
    cases hb : o'.beq (o + w) && (wEq a a' && wEq b b') <;> rw [hb] at h <;> cases h
    simp only [Bool.and_eq_true, Nat.beq_eq, decide_eq_true_eq] at hb
    obtain ⟨rfl, h1, h2⟩ := hb
    obtain rfl := wEq_sound _ _ h1
    obtain rfl := wEq_sound _ _ h2
    exact ⟨rfl, mod_join _ _ _ _⟩
  · cases h
def isNo : Seg → Bool | .k n w => (n % 2 ^ w).beq 0 | _ => false
/-- A piece ahead of others. -/
def ncons (s : Seg) (r : W) : W := bif s.w.beq 0 then r else match r with
  | [] => bif isNo s then [] else [s]
  | t :: r => match s.join t with
    | some q => q :: r
    | none => s :: t :: r
theorem ncons_ev (ρ : Nat → Nat) (s : Seg) (r : W) : evW ρ (ncons s r) = s.val ρ + 2 ^ s.w * evW ρ r := by
  unfold ncons
  cases hw : s.w.beq 0
  · simp only [cond_false]
    cases r with
    | nil =>
      simp only
      cases hn : isNo s
      · rfl
      · unfold isNo at hn
        split at hn
        · simp only [Nat.beq_eq] at hn
          simp [evW, Seg.val, hn]
        · cases hn
    | cons t r =>
      simp only
      cases hj : s.join t with
      | none => rfl
      | some q =>
        obtain ⟨h1, h2⟩ := Seg.join_sound ρ hj
        simp only [evW]
        rw [h1, h2, Nat.pow_add, Nat.mul_add, Nat.mul_assoc, Nat.add_assoc]
  · have h0 : s.w = 0 := Nat.eq_of_beq_eq_true hw
    have h1 := Seg.val_lt ρ s
    rw [h0] at h1 ⊢
    have : s.val ρ = 0 := by omega
    simp [this]
def dropW : Nat → W → W
  | _, [] => []
  | o, s :: r => bif s.w.ble o then dropW (o - s.w) r else ncons (s.drop o) r
theorem add_mul_div (a b w o : Nat) (ha : a < 2 ^ w) (h : w ≤ o) : (a + 2 ^ w * b) / 2 ^ o = b / 2 ^ (o - w) := by
  have : 2 ^ o = 2 ^ w * 2 ^ (o - w) := by rw [← Nat.pow_add]; congr 1; omega
  rw [this, ← Nat.div_div_eq_div_mul, Nat.add_mul_div_left _ _ (Nat.two_pow_pos _), Nat.div_eq_of_lt ha, Nat.zero_add]
theorem add_mul_div' (a b w o : Nat) (h : o ≤ w) : (a + 2 ^ w * b) / 2 ^ o = a / 2 ^ o + 2 ^ (w - o) * b := by
  have : 2 ^ w = 2 ^ o * 2 ^ (w - o) := by rw [← Nat.pow_add]; congr 1; omega
  rw [this, Nat.mul_assoc, Nat.add_mul_div_left _ _ (Nat.two_pow_pos _)]
theorem dropW_ev (ρ : Nat → Nat) : ∀ (x : W) (o : Nat), evW ρ (dropW o x) = evW ρ x / 2 ^ o := by
  intro x
  induction x with
  | nil => intro o; simp [dropW, evW]
  | cons s r ih =>
    intro o
    simp only [dropW]
    cases h : s.w.ble o
    · have h : o ≤ s.w := by
        have : ¬ s.w ≤ o := fun q => by rw [Nat.ble_eq_true_of_le q] at h; cases h
        omega
      rw [cond_false, ncons_ev, Seg.val_drop ρ h, Seg.w_drop]
      simp only [evW]
      rw [add_mul_div' _ _ _ _ h]
    · have h := Nat.le_of_ble_eq_true h
      rw [cond_true, ih]
      simp only [evW]
      rw [add_mul_div _ _ _ _ (Seg.val_lt ρ s) h]
def takeW : Nat → W → W
  | _, [] => []
  | n, s :: r => bif n.ble s.w then ncons (s.take n) [] else ncons s (takeW (n - s.w) r)
theorem add_mul_mod (a b w n : Nat) (h : n ≤ w) : (a + 2 ^ w * b) % 2 ^ n = a % 2 ^ n := by
  have : 2 ^ w = 2 ^ n * 2 ^ (w - n) := by rw [← Nat.pow_add]; congr 1; omega
  rw [this, Nat.mul_assoc, Nat.add_mul_mod_self_left]
theorem add_mul_mod' (a b w n : Nat) (ha : a < 2 ^ w) (h : w ≤ n) : (a + 2 ^ w * b) % 2 ^ n = a + 2 ^ w * (b % 2 ^ (n - w)) := by
  have : 2 ^ n = 2 ^ w * 2 ^ (n - w) := by rw [← Nat.pow_add]; congr 1; omega
  rw [this, Nat.mod_mul, Nat.add_mul_mod_self_left, Nat.mod_eq_of_lt ha, Nat.add_mul_div_left _ _ (Nat.two_pow_pos _), Nat.div_eq_of_lt ha, Nat.zero_add]
theorem takeW_ev (ρ : Nat → Nat) : ∀ (x : W) (n : Nat), evW ρ (takeW n x) = evW ρ x % 2 ^ n := by
  intro x
  induction x with
  | nil => intro o; simp [takeW, evW]
  | cons s r ih =>
    intro n
    simp only [takeW]
    cases h : n.ble s.w
    · have h : s.w ≤ n := by
        have : ¬ n ≤ s.w := fun q => by rw [Nat.ble_eq_true_of_le q] at h; cases h
        omega
      rw [cond_false, ncons_ev, ih]
      simp only [evW]
      rw [add_mul_mod' _ _ _ _ (Seg.val_lt ρ s) h]
    · have h := Nat.le_of_ble_eq_true h
      rw [cond_true, ncons_ev, Seg.val_take ρ h]
      simp only [evW, Nat.mul_zero, Nat.add_zero]
      rw [add_mul_mod _ _ _ _ h]
/-- Bits of a word: so many, from a place on. -/
def cutW (o n : Nat) (x : W) : W := takeW n (dropW o x)
theorem cutW_ev (ρ : Nat → Nat) (o n : Nat) (x : W) : evW ρ (cutW o n x) = evW ρ x / 2 ^ o % 2 ^ n := by rw [cutW, takeW_ev, dropW_ev]
/-- A word moved up. -/
def upW (n : Nat) (x : W) : W := match x with
  | [] => []
  | _ => ncons (.k 0 n) x
theorem upW_ev (ρ : Nat → Nat) (n : Nat) (x : W) : evW ρ (upW n x) = evW ρ x * 2 ^ n := by
  unfold upW
  cases x with
  | nil => simp [evW]
  | cons s r => simp only; rw [ncons_ev]; simp [Seg.val, Seg.w, Nat.mul_comm]
/-- How many bits a number has. -/
def litW (n : Nat) : W := bif n.beq 0 then [] else [.k n (n.log2 + 1)]
theorem litW_ev (ρ : Nat → Nat) (n : Nat) : evW ρ (litW n) = n := by
  unfold litW
  cases h : n.beq 0
  · simp only [cond_false, evW, Seg.val, Nat.mul_zero, Nat.add_zero]
    exact Nat.mod_eq_of_lt Nat.lt_log2_self
  · have := Nat.eq_of_beq_eq_true h
    subst this; rfl
/-! Bounds -/
def isRem : BinOp → Bool | .rem => true | _ => false
theorem gZ_rem {op : BinOp} (h : isRem op = true) (q : IntKind) {a b : Nat} (hb : 0 < b) : (gZ op q a b).toNat < b := by
  cases op <;> cases h
  have e0 : ((b : Int) == 0) = false := by rw [beq_eq_false_iff_ne]; omega
  have e : gZ .rem q a b = ((a : Int).tmod (b : Int)) := by
    unfold gZ
    simp only [isShift, cond_false, ibin, e0]
  rw [e]
  have e2 : (a : Int).tmod (b : Int) = ((a % b : Nat) : Int) := rfl
  rw [e2, Int.toNat_natCast]
  exact Nat.mod_lt _ hb
mutual
def Seg.hi : Seg → Nat
  | .k n w => n % 2 ^ w
  | .d a b 0 w => Nat.min (hiW a - loW b) (2 ^ w - 1)
  | .p a b 0 w => Nat.min (hiW a + hiW b) (2 ^ w - 1)
  | .v _ _ w => 2 ^ w - 1
  | .g op _ _ b o w => bif isRem op && o.beq 0 && Nat.blt 0 (loW b) then Nat.min (hiW b - 1) (2 ^ w - 1) else 2 ^ w - 1
  | .d _ _ (_ + 1) w => 2 ^ w - 1
  | .p _ _ (_ + 1) w => 2 ^ w - 1
def hiW : List Seg → Nat
  | [] => 0
  | s :: r => s.hi + 2 ^ s.w * hiW r
def Seg.lo : Seg → Nat
  | .k n w => n % 2 ^ w
  | .d a b 0 w => bif Nat.blt (hiW a - loW b) (2 ^ w) then loW a - hiW b else 0
  | .p a b 0 w => bif Nat.blt (hiW a + hiW b) (2 ^ w) then loW a + loW b else 0
  | .v _ _ _ => 0
  | .g _ _ _ _ _ _ => 0
  | .d _ _ (_ + 1) _ => 0
  | .p _ _ (_ + 1) _ => 0
def loW : List Seg → Nat
  | [] => 0
  | s :: r => s.lo + 2 ^ s.w * loW r
end
mutual
theorem Seg.bounds (ρ : Nat → Nat) : ∀ (s : Seg), s.lo ≤ s.val ρ ∧ s.val ρ ≤ s.hi
  | .k n w => by simp only [Seg.lo, Seg.val, Seg.hi]; exact ⟨Nat.le_refl _, Nat.le_refl _⟩
  | .v i o w => by
    have := Seg.val_lt ρ (.v i o w)
    simp only [Seg.w] at this
    simp only [Seg.lo, Seg.hi]; omega
  | .g op q a b o w => by
    have := Seg.val_lt ρ (.g op q a b o w)
    simp only [Seg.w] at this
    obtain ⟨b1, b2⟩ := boundsW ρ b
    simp only [Seg.lo, Seg.hi]
    refine ⟨Nat.zero_le _, ?_⟩
    cases hc : isRem op && o.beq 0 && Nat.blt 0 (loW b)
    · rw [cond_false]; omega
    · rw [cond_true]
      simp only [Bool.and_eq_true] at hc
      obtain ⟨⟨h1, h2⟩, h3⟩ := hc
      obtain rfl := Nat.eq_of_beq_eq_true h2
      have h3 : 0 < loW b := Nat.le_of_ble_eq_true h3
      have h4 := gZ_rem h1 q (a := evW ρ a) (b := evW ρ b) (by omega)
      have h5 : (Seg.g op q a b 0 w).val ρ ≤ (gZ op q (evW ρ a) (evW ρ b)).toNat := by
        simp only [Seg.val, Nat.pow_zero, Nat.div_one]; exact Nat.mod_le _ _
      exact Nat.le_min.2 ⟨by omega, by omega⟩
  | .d a b 0 w => by
    have h1 := Seg.val_lt ρ (.d a b 0 w)
    simp only [Seg.w] at h1
    obtain ⟨a1, a2⟩ := boundsW ρ a
    obtain ⟨b1, b2⟩ := boundsW ρ b
    have h2 : (Seg.d a b 0 w).val ρ ≤ evW ρ a - evW ρ b := by
      simp only [Seg.val, Nat.pow_zero, Nat.div_one]; exact Nat.mod_le _ _
    have h3 : hiW a - loW b < 2 ^ w → (Seg.d a b 0 w).val ρ = evW ρ a - evW ρ b := fun h => by
      simp only [Seg.val, Nat.pow_zero, Nat.div_one]; exact Nat.mod_eq_of_lt (by omega)
    simp only [Seg.lo, Seg.hi]
    refine ⟨?_, Nat.le_min.2 ⟨by omega, by omega⟩⟩
    cases hb : Nat.blt (hiW a - loW b) (2 ^ w)
    · exact Nat.zero_le _
    · have := h3 (Nat.le_of_ble_eq_true hb)
      rw [cond_true]; omega
  | .p a b 0 w => by
    have h1 := Seg.val_lt ρ (.p a b 0 w)
    simp only [Seg.w] at h1
    obtain ⟨a1, a2⟩ := boundsW ρ a
    obtain ⟨b1, b2⟩ := boundsW ρ b
    have h2 : (Seg.p a b 0 w).val ρ ≤ evW ρ a + evW ρ b := by
      simp only [Seg.val, Nat.pow_zero, Nat.div_one]; exact Nat.mod_le _ _
    have h3 : hiW a + hiW b < 2 ^ w → (Seg.p a b 0 w).val ρ = evW ρ a + evW ρ b := fun h => by
      simp only [Seg.val, Nat.pow_zero, Nat.div_one]; exact Nat.mod_eq_of_lt (by omega)
    simp only [Seg.lo, Seg.hi]
    refine ⟨?_, Nat.le_min.2 ⟨by omega, by omega⟩⟩
    cases hb : Nat.blt (hiW a + hiW b) (2 ^ w)
    · exact Nat.zero_le _
    · have := h3 (Nat.le_of_ble_eq_true hb)
      rw [cond_true]; omega
  | .d a b (o + 1) w => by
    have := Seg.val_lt ρ (.d a b (o + 1) w)
    simp only [Seg.w] at this
    simp only [Seg.lo, Seg.hi]; omega
  | .p a b (o + 1) w => by
    have := Seg.val_lt ρ (.p a b (o + 1) w)
    simp only [Seg.w] at this
    simp only [Seg.lo, Seg.hi]; omega
theorem boundsW (ρ : Nat → Nat) : ∀ (x : List Seg), loW x ≤ evW ρ x ∧ evW ρ x ≤ hiW x
  | [] => by simp [loW, evW, hiW]
  | s :: r => by
    obtain ⟨a1, a2⟩ := Seg.bounds ρ s
    obtain ⟨b1, b2⟩ := boundsW ρ r
    have h1 := Nat.mul_le_mul_left (2 ^ s.w) b1
    have h2 := Nat.mul_le_mul_left (2 ^ s.w) b2
    simp only [loW, evW, hiW]; omega
end
/-! Two words, bit by bit -/
inductive Z4 | or | and | xor | add
/-- Of two pieces as long as each other: what comes of them; none: it is not known in short. -/
def bitZ : Z4 → Nat → Nat → Nat
  | .or, a, b => a ||| b
  | .and, a, b => a &&& b
  | .xor, a, b => a ^^^ b
  | .add, a, b => a ||| b
def okZ : Z4 → Nat → Nat → Bool
  | .add, a, b => (a &&& b).beq 0
  | _, _, _ => true
/-- Half of a number and its lowest bit: as long as bits are alike. -/
def runF : Nat → Nat → Nat → Nat
  | 0, _, _ => 0
  | f + 1, b, n => bif (n % 2).beq b then runF f b (n / 2) + 1 else 0
/-- A number's piece against an unknown's. -/
def mixZ (z : Z4) (c d : Nat) (s : Seg) : Option Seg :=
  bif c.beq 0 then (match z with | .or | .xor | .add => some s | .and => some (.k 0 d))
  else bif c.beq (2 ^ d - 1) then (match z with | .or => some (.k c d) | .and => some s | _ => none) else none
def sameZ (z : Z4) (s t : Seg) : Option Seg := bif s.eq t then (match z with | .or | .and => some s | .xor => some (.k 0 s.w) | .add => none) else none
def zW (z : Z4) : Nat → W → W → Option W
  | 0, _, _ => none
  | f + 1, [], y => some (match z with | .and => [] | _ => y)
  | f + 1, x, [] => some (match z with | .and => [] | _ => x)
  | f + 1, s :: r, t :: u =>
    let m := Nat.min s.w t.w
    bif m.beq 0 then (bif s.w.beq 0 then zW z f r (t :: u) else zW z f (s :: r) u) else
    match s, t with
    | .k n w, .k n' w' => bif okZ z (n % 2 ^ m) (n' % 2 ^ m) then (match zW z f (ncons (s.drop m) r) (ncons (t.drop m) u) with | some q => some (ncons (.k (bitZ z (n % 2 ^ m) (n' % 2 ^ m)) m) q) | none => none) else none
    | .k n w, _ => let d := Nat.max 1 (runF m (n % 2) n)
      match mixZ z (n % 2 ^ d) d (t.take d), zW z f (ncons (s.drop d) r) (ncons (t.drop d) u) with | some p, some q => some (ncons p q) | _, _ => none
    | _, .k n w => let d := Nat.max 1 (runF m (n % 2) n)
      match mixZ z (n % 2 ^ d) d (s.take d), zW z f (ncons (s.drop d) r) (ncons (t.drop d) u) with | some p, some q => some (ncons p q) | _, _ => none
    | _, _ => match sameZ z (s.take m) (t.take m), zW z f (ncons (s.drop m) r) (ncons (t.drop m) u) with | some p, some q => some (ncons p q) | _, _ => none
end Go.Ev
