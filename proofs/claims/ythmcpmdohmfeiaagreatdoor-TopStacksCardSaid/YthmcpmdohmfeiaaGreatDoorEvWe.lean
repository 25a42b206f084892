/- Numbers that are not known: what an operation makes of two of them. -/
import Derived.Test.YthmcpmdohmfeiaaGreatDoorEvWd
namespace Go.Ev
open Go
set_option linter.unusedVariables false
set_option linter.unusedSimpArgs false
set_option linter.constructorNameAsVariable false
def litOf : W → Option Nat
  | [] => some 0
  | [.k n w] => some (n % 2 ^ w)
  | _ => none
theorem litOf_ev (ρ : Nat → Nat) {x : W} {a : Nat} (h : litOf x = some a) : evW ρ x = a := by
  unfold litOf at h
  split at h
  · cases h; rfl
  · cases h; simp [evW, Seg.val]
  · cases h
def mkI (k : IntKind) (x : W) : SV := match litOf x with
  | some a => .n k a
  | none => .w k x
theorem mkI_inst (ρ : Nat → Nat) (k : IntKind) (x : W) : (mkI k x).inst ρ = .int k (Int.ofNat (evW ρ x)) := by
  unfold mkI
  cases h : litOf x with
  | none => rfl
  | some a => rw [litOf_ev ρ h]; rfl
def wOf : SV → Option (IntKind × W)
  | .n k a => some (k, litW a)
  | .w k x => some (k, x)
  | _ => none
theorem wOf_inst (ρ : Nat → Nat) {v : SV} {k : IntKind} {x : W} (h : wOf v = some (k, x)) : v.inst ρ = .int k (Int.ofNat (evW ρ x)) := by
  unfold wOf at h
  split at h <;> cases h
  · rw [litW_ev]; rfl
  · rfl
/-- How far a kind's numbers go. -/
def lim (k : IntKind) : Nat := match k with
  | .i8 => 128 | .i16 => 32768 | .i32 => 2147483648 | .i64 => 9223372036854775808
  | .u8 => 256 | .u16 => 65536 | .u32 => 4294967296 | .u64 => 18446744073709551616
theorem lim_le (k : IntKind) : lim k ≤ 2 ^ k.bits := by cases k <;> decide
theorem wrap_lim {k : IntKind} {a : Nat} (h : a < lim k) : k.wrap (Int.ofNat a) = Int.ofNat a := by
  cases k <;> simp only [lim] at h <;> simp [IntKind.wrap, IntKind.bits, IntKind.signed] <;> omega
theorem wrap_uns {k : IntKind} (hk : k.signed = false) (a : Nat) : k.wrap (Int.ofNat a) = Int.ofNat (a % 2 ^ k.bits) := by
  cases k <;> simp [IntKind.signed] at hk <;> simp [IntKind.wrap, IntKind.bits, IntKind.signed]
theorem wrap_pos {k : IntKind} (hk : k.signed = false) (z : Int) : 0 ≤ k.wrap z ∧ k.wrap z < 2 ^ k.bits := by
  cases k <;> simp [IntKind.signed] at hk <;> simp [IntKind.wrap, IntKind.bits, IntKind.signed] <;> omega
def wrapW (k : IntKind) (x : W) : Option W := bif k.signed then (bif Nat.blt (hiW x) (lim k) then some x else none) else some (takeW k.bits x)
theorem blt_lt {a b : Nat} (h : Nat.blt a b = true) : a < b := Nat.le_of_ble_eq_true h
theorem wrapW_ev (ρ : Nat → Nat) {k : IntKind} {x q : W} (h : wrapW k x = some q) : k.wrap (Int.ofNat (evW ρ x)) = Int.ofNat (evW ρ q) := by
  unfold wrapW at h
  cases hs : k.signed <;> rw [hs] at h
  · cases h
    rw [wrap_uns hs, takeW_ev]
  · simp only [cond_true] at h
    cases hb : Nat.blt (hiW x) (lim k) <;> rw [hb] at h <;> cases h
    exact wrap_lim (Nat.lt_of_le_of_lt (boundsW ρ x).2 (blt_lt hb))
/-! Which is less? Are they the same? -/
def asmF (c : Nat) (x y : W) : List Asm → Option Bool
  | [] => none
  | a :: r => bif a.c.beq c && (wEq a.x x && wEq a.y y) then some a.b else asmF c x y r
theorem asmF_spec {ρ : Nat → Nat} {c : Nat} {x y : W} : ∀ {G : List Asm} {b : Bool}, asmF c x y G = some b → (∀ a ∈ G, a.ok ρ) → (⟨c, x, y, b⟩ : Asm).ok ρ := by
  intro G
  induction G with
  | nil => intro b h; cases h
  | cons a r ih =>
    intro b h hG
    simp only [asmF] at h
    cases hb : a.c.beq c && (wEq a.x x && wEq a.y y) <;> rw [hb] at h
    · exact ih h fun q hq => hG q (List.mem_cons_of_mem _ hq)
    · cases h
      simp only [Bool.and_eq_true, Nat.beq_eq] at hb
      obtain ⟨h1, h2, h3⟩ := hb
      have := hG a List.mem_cons_self
      obtain ⟨c', x', y', b'⟩ := a
      simp only at h1 h2 h3
      obtain rfl := h1; obtain rfl := wEq_sound _ _ h2; obtain rfl := wEq_sound _ _ h3
      exact this
def ltW (G : List Asm) (x y : W) : Option Bool :=
  bif Nat.blt (hiW x) (loW y) then some true else bif Nat.ble (hiW y) (loW x) then some false else bif wEq x y then some false else asmF 1 x y G
theorem ltW_spec {ρ : Nat → Nat} {G : List Asm} {x y : W} {b : Bool} (hG : ∀ a ∈ G, a.ok ρ) (h : ltW G x y = some b) : decide (evW ρ x < evW ρ y) = b := by
  have hx := boundsW ρ x
  have hy := boundsW ρ y
  unfold ltW at h
  cases h1 : Nat.blt (hiW x) (loW y) <;> rw [h1] at h
  · cases h2 : Nat.ble (hiW y) (loW x) <;> rw [h2] at h
    · cases h3 : wEq x y <;> rw [h3] at h
      · have := asmF_spec h hG
        simp only [Asm.ok] at this
        rw [← this]
        show decide _ = Nat.blt _ _
        cases hb : Nat.blt (evW ρ x) (evW ρ y)
        · exact decide_eq_false fun q => by rw [show Nat.blt (evW ρ x) (evW ρ y) = true from Nat.ble_eq_true_of_le q] at hb; cases hb
        · exact decide_eq_true (blt_lt hb)
      · cases h
        rw [wEq_sound _ _ h3]; simp
    · cases h
      have := Nat.le_of_ble_eq_true h2
      exact decide_eq_false (by omega)
  · cases h
    have := blt_lt h1
    exact decide_eq_true (by omega)
def orO (a b : Option Bool) : Option Bool := match a with | some x => some x | none => b
def eqW (G : List Asm) (x y : W) : Option Bool :=
  bif wEq x y then some true else bif Nat.blt (hiW x) (loW y) || (Nat.blt (hiW y) (loW x) || difF 200 x y) then some false else orO (asmF 0 x y G) (asmF 0 y x G)
theorem eqW_spec {ρ : Nat → Nat} {G : List Asm} {x y : W} {b : Bool} (hG : ∀ a ∈ G, a.ok ρ) (h : eqW G x y = some b) : decide (evW ρ x = evW ρ y) = b := by
  have hx := boundsW ρ x
  have hy := boundsW ρ y
  have key : ∀ {p q : W} {b : Bool}, asmF 0 p q G = some b → decide (evW ρ p = evW ρ q) = b := fun {p q b} h => by
    have := asmF_spec h hG
    simp only [Asm.ok] at this
    rw [← this]
    show decide _ = Nat.beq _ _
    cases hb : Nat.beq (evW ρ p) (evW ρ q)
    · exact decide_eq_false (Nat.ne_of_beq_eq_false hb)
    · exact decide_eq_true (Nat.eq_of_beq_eq_true hb)
  unfold eqW at h
  cases h3 : wEq x y <;> rw [h3] at h
  · cases h1 : Nat.blt (hiW x) (loW y) || (Nat.blt (hiW y) (loW x) || difF 200 x y) <;> rw [h1] at h
    · simp only [cond_false, orO] at h
      cases ha : asmF 0 x y G with
      | some b' => rw [ha] at h; cases h; exact key ha
      | none =>
        rw [ha] at h
        have := key h
        rw [← this]
        simp only [eq_comm]
    · cases h
      simp only [Bool.or_eq_true] at h1
      refine decide_eq_false ?_
      rcases h1 with h1 | h1 | h1
      · have := blt_lt h1; omega
      · have := blt_lt h1; omega
      · exact difF_sound ρ _ _ _ h1
  · cases h
    rw [wEq_sound _ _ h3]; simp
def bSV (b : Bool) : SV := bif b then .t else .f
theorem bSV_inst (ρ : Nat → Nat) (b : Bool) : (bSV b).inst ρ = .bool b := by cases b <;> rfl
/-! The operations -/
/-- An operation whose answer is not told in short. -/
def gW (op : BinOp) (k : IntKind) (x y : W) : SV := .w k [.g op k x y 0 k.bits]
theorem gW_inst (ρ : Nat → Nat) {op : BinOp} {k : IntKind} {x y : W} {z : Int} (h : (bif isShift op then ishift op k (Int.ofNat (evW ρ x)) (Int.ofNat (evW ρ y)) else ibin op k (Int.ofNat (evW ρ x)) (Int.ofNat (evW ρ y))) = some (.int k z)) (h0 : 0 ≤ z) (h1 : z < 2 ^ k.bits) :
    (gW op k x y).inst ρ = .int k z := by
  have : gZ op k (evW ρ x) (evW ρ y) = z := by
    unfold gZ
    rw [show ((evW ρ x : Nat) : Int) = Int.ofNat (evW ρ x) from rfl, show ((evW ρ y : Nat) : Int) = Int.ofNat (evW ρ y) from rfl, h]
  simp only [gW, SV.inst, evW, Seg.val, this, Nat.pow_zero, Nat.div_one, Nat.mul_zero, Nat.add_zero]
  congr 1
  have h2 : z.toNat < 2 ^ k.bits := by
    have : ((2 : Int) ^ k.bits) = ((2 ^ k.bits : Nat) : Int) := by simp
    rw [this] at h1
    omega
  rw [Nat.mod_eq_of_lt h2]
  show ((z.toNat : Nat) : Int) = z
  omega
/-- Two to which power? -/
def pow2 (a : Nat) : Option Nat := bif a.beq 0 then none else bif (2 ^ a.log2).beq a then some a.log2 else none
theorem pow2_spec {a n : Nat} (h : pow2 a = some n) : a = 2 ^ n := by
  unfold pow2 at h
  cases h1 : a.beq 0 <;> rw [h1] at h
  · cases h2 : (2 ^ a.log2).beq a <;> rw [h2] at h <;> cases h
    exact (Nat.eq_of_beq_eq_true h2).symm
  · cases h
def litP (x : W) : Option Nat := match litOf x with | some a => pow2 a | none => none
theorem litP_spec (ρ : Nat → Nat) {x : W} {n : Nat} (h : litP x = some n) : evW ρ x = 2 ^ n := by
  unfold litP at h
  split at h
  · rename_i a ha; rw [litOf_ev ρ ha]; exact pow2_spec h
  · cases h
def outW (k : IntKind) (r : Option W) : Option SV := match r with
  | some q => match wrapW k q with
    | some q => some (mkI k q)
    | none => none
  | none => none
theorem outW_inst (ρ : Nat → Nat) {k : IntKind} {r : Option W} {s : SV} {a : Nat} (h : outW k r = some s) (ha : ∀ q, r = some q → evW ρ q = a) : s.inst ρ = .int k (k.wrap (Int.ofNat a)) := by
  unfold outW at h
  split at h
  · rename_i q
    split at h
    · rename_i q' hq
      cases h
      rw [mkI_inst, ← wrapW_ev ρ hq, ha q rfl]
    · cases h
  · cases h
def sAdd (k : IntKind) (x y : W) : Option SV := match outW k (zW .add 200 x y) with
  | some s => some s
  | none => bif k.signed then (bif Nat.blt (hiW x + hiW y) (lim k) then some (.w k [.p x y 0 k.bits]) else none) else some (.w k [.p x y 0 k.bits])
theorem sAdd_inst (ρ : Nat → Nat) {k : IntKind} {x y : W} {s : SV} (h : sAdd k x y = some s) : s.inst ρ = .int k (k.wrap (Int.ofNat (evW ρ x) + Int.ofNat (evW ρ y))) := by
  have e0 : Int.ofNat (evW ρ x) + Int.ofNat (evW ρ y) = Int.ofNat (evW ρ x + evW ρ y) := rfl
  rw [e0]
  unfold sAdd at h
  split at h
  · rename_i s' hs
    cases h
    exact outW_inst ρ hs fun q hq => zW_sound ρ _ _ _ _ _ hq
  · have hi : (SV.w k [.p x y 0 k.bits]).inst ρ = .int k (Int.ofNat ((evW ρ x + evW ρ y) % 2 ^ k.bits)) := by
      simp [SV.inst, evW, Seg.val]
    cases hk : k.signed <;> rw [hk] at h
    · cases h
      rw [hi, wrap_uns hk]
    · simp only [cond_true] at h
      cases hb : Nat.blt (hiW x + hiW y) (lim k) <;> rw [hb] at h <;> cases h
      have := (boundsW ρ x).2
      have := (boundsW ρ y).2
      have := blt_lt hb
      have := lim_le k
      rw [hi, wrap_lim (by omega), Nat.mod_eq_of_lt (by omega)]
def sSub (k : IntKind) (x y : W) : Option SV := bif wEq x y then some (.n k 0) else
  bif Nat.ble (hiW y) (loW x) && Nat.blt (hiW x) (lim k) then some (.w k [.d x y 0 k.bits]) else bif k.signed then none else some (gW .sub k x y)
theorem sSub_inst (ρ : Nat → Nat) {k : IntKind} {x y : W} {s : SV} (h : sSub k x y = some s) : s.inst ρ = .int k (k.wrap (Int.ofNat (evW ρ x) - Int.ofNat (evW ρ y))) := by
  have hx := boundsW ρ x
  have hy := boundsW ρ y
  unfold sSub at h
  cases h3 : wEq x y <;> rw [h3] at h
  · cases hb : Nat.ble (hiW y) (loW x) && Nat.blt (hiW x) (lim k) <;> rw [hb] at h
    · cases hk : k.signed <;> rw [hk] at h <;> cases h
      exact gW_inst ρ rfl (wrap_pos hk _).1 (wrap_pos hk _).2
    · cases h
      simp only [Bool.and_eq_true] at hb
      have h1 := Nat.le_of_ble_eq_true hb.1
      have h2 := blt_lt hb.2
      have := lim_le k
      have e : Int.ofNat (evW ρ x) - Int.ofNat (evW ρ y) = Int.ofNat (evW ρ x - evW ρ y) := by
        show ((evW ρ x : Nat) : Int) - ((evW ρ y : Nat) : Int) = ((evW ρ x - evW ρ y : Nat) : Int)
        omega
      rw [e, wrap_lim (by omega)]
      have e2 : (evW ρ x - evW ρ y) % 2 ^ k.bits = evW ρ x - evW ρ y := Nat.mod_eq_of_lt (by omega)
      simp [SV.inst, evW, Seg.val, e2]
  · cases h
    rw [wEq_sound _ _ h3]
    have : Int.ofNat (evW ρ y) - Int.ofNat (evW ρ y) = Int.ofNat 0 := Int.sub_self _
    rw [this, wrap_lim (by cases k <;> decide)]; rfl
def isZ (x : W) : Bool := match litOf x with | some a => a.beq 0 | none => false
def sMul (k : IntKind) (x y : W) : Option SV := match litP y with
  | some n => outW k (some (upW n x))
  | none => match litP x with
    | some n => outW k (some (upW n y))
    | none => bif isZ x || isZ y then some (.n k 0) else bif k.signed then none else some (gW .mul k x y)
theorem isZ_ev (ρ : Nat → Nat) {x : W} (h : isZ x = true) : evW ρ x = 0 := by
  unfold isZ at h
  split at h
  · rename_i a ha; rw [litOf_ev ρ ha]; exact Nat.eq_of_beq_eq_true h
  · cases h
theorem sMul_inst (ρ : Nat → Nat) {k : IntKind} {x y : W} {s : SV} (h : sMul k x y = some s) : s.inst ρ = .int k (k.wrap (Int.ofNat (evW ρ x) * Int.ofNat (evW ρ y))) := by
  have e0 : Int.ofNat (evW ρ x) * Int.ofNat (evW ρ y) = Int.ofNat (evW ρ x * evW ρ y) := rfl
  unfold sMul at h
  split at h
  · rename_i n hn
    rw [e0]
    refine outW_inst ρ h fun q hq => ?_
    cases hq
    rw [upW_ev, litP_spec ρ hn]
  · split at h
    · rename_i n hn
      rw [e0]
      refine outW_inst ρ h fun q hq => ?_
      cases hq
      rw [upW_ev, litP_spec ρ hn, Nat.mul_comm]
    · cases hz : isZ x || isZ y <;> rw [hz] at h
      · cases hk : k.signed <;> rw [hk] at h <;> cases h
        exact gW_inst ρ rfl (wrap_pos hk _).1 (wrap_pos hk _).2
      · cases h
        have : evW ρ x * evW ρ y = 0 := by
          rcases Bool.or_eq_true_iff.1 hz with q | q
          · rw [isZ_ev ρ q, Nat.zero_mul]
          · rw [isZ_ev ρ q, Nat.mul_zero]
        rw [e0, this, wrap_lim (by cases k <;> decide)]; rfl
def sQuo (k : IntKind) (x y : W) : Option SV := match litP y with
  | some n => outW k (some (dropW n x))
  | none => bif k.signed || Nat.beq (loW y) 0 then none else some (gW .quo k x y)
theorem sQuo_inst (ρ : Nat → Nat) {k : IntKind} {x y : W} {s : SV} (h : sQuo k x y = some s) : ibin .quo k (Int.ofNat (evW ρ x)) (Int.ofNat (evW ρ y)) = some (s.inst ρ) := by
  unfold sQuo at h
  have hne : evW ρ y ≠ 0 → (Int.ofNat (evW ρ y) == 0) = false := fun hq => by
    rw [beq_eq_false_iff_ne]
    exact fun e => hq (Int.ofNat.inj e)
  split at h
  · rename_i n hn
    have hy := litP_spec ρ hn
    have := outW_inst ρ h (a := evW ρ x / evW ρ y) fun q hq => by cases hq; rw [dropW_ev, hy]
    rw [this, ibin, hne (by rw [hy]; exact Nat.ne_of_gt (Nat.two_pow_pos _))]
    rfl
  · cases hz : k.signed || Nat.beq (loW y) 0 <;> rw [hz] at h <;> cases h
    simp only [Bool.or_eq_false_iff] at hz
    have h0 := (boundsW ρ y).1
    have h1 := Nat.ne_of_beq_eq_false hz.2
    have h2 : ibin .quo k (Int.ofNat (evW ρ x)) (Int.ofNat (evW ρ y)) = some (.int k (k.wrap ((Int.ofNat (evW ρ x)).tdiv (Int.ofNat (evW ρ y))))) := by
      rw [ibin, hne (by omega)]; rfl
    rw [h2]
    exact congrArg some (gW_inst ρ (op := .quo) h2 (wrap_pos hz.1 _).1 (wrap_pos hz.1 _).2).symm
def sRem (k : IntKind) (x y : W) : Option SV := match litP y with
  | some n => some (mkI k (takeW n x))
  | none => bif Nat.beq (loW y) 0 || Nat.ble (2 ^ k.bits) (hiW y) then none else some (gW .rem k x y)
theorem sRem_inst (ρ : Nat → Nat) {k : IntKind} {x y : W} {s : SV} (h : sRem k x y = some s) : ibin .rem k (Int.ofNat (evW ρ x)) (Int.ofNat (evW ρ y)) = some (s.inst ρ) := by
  unfold sRem at h
  have hne : evW ρ y ≠ 0 → (Int.ofNat (evW ρ y) == 0) = false := fun hq => by
    rw [beq_eq_false_iff_ne]
    exact fun e => hq (Int.ofNat.inj e)
  have e0 : (Int.ofNat (evW ρ x)).tmod (Int.ofNat (evW ρ y)) = Int.ofNat (evW ρ x % evW ρ y) := rfl
  split at h
  · rename_i n hn
    have hy := litP_spec ρ hn
    cases h
    rw [mkI_inst, takeW_ev, ← hy, ibin, hne (by rw [hy]; exact Nat.ne_of_gt (Nat.two_pow_pos _))]
    rfl
  · cases hz : Nat.beq (loW y) 0 || Nat.ble (2 ^ k.bits) (hiW y) <;> rw [hz] at h <;> cases h
    simp only [Bool.or_eq_false_iff] at hz
    have h0 := boundsW ρ y
    have h1 := Nat.ne_of_beq_eq_false hz.1
    have h3 : hiW y < 2 ^ k.bits := by
      have : ¬ 2 ^ k.bits ≤ hiW y := fun q => by rw [Nat.ble_eq_true_of_le q] at hz; cases hz.2
      omega
    have h2 : ibin .rem k (Int.ofNat (evW ρ x)) (Int.ofNat (evW ρ y)) = some (.int k (Int.ofNat (evW ρ x % evW ρ y))) := by
      rw [ibin, hne (by omega)]; rfl
    rw [h2]
    have h4 : evW ρ x % evW ρ y < evW ρ y := Nat.mod_lt _ (by omega)
    refine congrArg some (gW_inst ρ (op := .rem) h2 (Int.natCast_nonneg _) ?_).symm
    have : ((2 : Int) ^ k.bits) = ((2 ^ k.bits : Nat) : Int) := by simp
    rw [this]
    show ((_ : Nat) : Int) < _
    omega
def sBits (z : Z4) (op : BinOp) (k : IntKind) (x y : W) : Option SV := match outW k (zW z 200 (takeW k.bits x) (takeW k.bits y)) with
  | some s => some s
  | none => bif k.signed then none else some (gW op k x y)
theorem sBits_inst (ρ : Nat → Nat) {z : Z4} {op : BinOp} {k : IntKind} {x y : W} {s : SV} (hop : isShift op = false) (h : sBits z op k x y = some s) (he : ibin op k (Int.ofNat (evW ρ x)) (Int.ofNat (evW ρ y)) = some (.int k (k.wrap (Int.ofNat (semZ z (evW ρ x % 2 ^ k.bits) (evW ρ y % 2 ^ k.bits)))))) :
    ibin op k (Int.ofNat (evW ρ x)) (Int.ofNat (evW ρ y)) = some (s.inst ρ) := by
  unfold sBits at h
  split at h
  · rename_i s' hs
    cases h
    rw [he]
    refine congrArg some (outW_inst ρ hs fun q hq => ?_).symm
    rw [zW_sound ρ _ _ _ _ _ hq, takeW_ev, takeW_ev]
  · cases hk : k.signed <;> rw [hk] at h <;> cases h
    rw [he]
    refine congrArg some (gW_inst ρ ?_ (wrap_pos hk _).1 (wrap_pos hk _).2).symm
    rw [hop]; exact he
theorem ofInt_nat (w a : Nat) : BitVec.ofInt w (Int.ofNat a) = BitVec.ofNat w a := BitVec.ofInt_natCast w a
theorem and_eq (k : IntKind) (a b : Nat) : ibin .and k (Int.ofNat a) (Int.ofNat b) = some (.int k (k.wrap (Int.ofNat (semZ .and (a % 2 ^ k.bits) (b % 2 ^ k.bits))))) := by
  simp only [ibin, ofInt_nat, BitVec.toNat_and, BitVec.toNat_ofNat, semZ]; rfl
theorem or_eq (k : IntKind) (a b : Nat) : ibin .or k (Int.ofNat a) (Int.ofNat b) = some (.int k (k.wrap (Int.ofNat (semZ .or (a % 2 ^ k.bits) (b % 2 ^ k.bits))))) := by
  simp only [ibin, ofInt_nat, BitVec.toNat_or, BitVec.toNat_ofNat, semZ]; rfl
theorem xor_eq (k : IntKind) (a b : Nat) : ibin .xor k (Int.ofNat a) (Int.ofNat b) = some (.int k (k.wrap (Int.ofNat (semZ .xor (a % 2 ^ k.bits) (b % 2 ^ k.bits))))) := by
  simp only [ibin, ofInt_nat, BitVec.toNat_xor, BitVec.toNat_ofNat, semZ]; rfl
theorem bv_andNot {w : Nat} (x y : BitVec w) : x &&& ~~~ y = x ^^^ (x &&& y) := by
  apply BitVec.eq_of_getLsbD_eq
  intro i hi
  simp only [BitVec.getLsbD_and, BitVec.getLsbD_xor, BitVec.getLsbD_not, hi, decide_true, Bool.true_and]
  cases x.getLsbD i <;> cases y.getLsbD i <;> rfl
def sNot (k : IntKind) (x y : W) : Option SV := match zW .and 200 (takeW k.bits x) (takeW k.bits y) with
  | some q => match outW k (zW .xor 200 (takeW k.bits x) q) with
    | some s => some s
    | none => bif k.signed then none else some (gW .andNot k x y)
  | none => bif k.signed then none else some (gW .andNot k x y)
theorem sNot_inst (ρ : Nat → Nat) {k : IntKind} {x y : W} {s : SV} (h : sNot k x y = some s) : ibin .andNot k (Int.ofNat (evW ρ x)) (Int.ofNat (evW ρ y)) = some (s.inst ρ) := by
  have he : ibin .andNot k (Int.ofNat (evW ρ x)) (Int.ofNat (evW ρ y)) = some (.int k (k.wrap (Int.ofNat ((evW ρ x % 2 ^ k.bits) ^^^ ((evW ρ x % 2 ^ k.bits) &&& (evW ρ y % 2 ^ k.bits)))))) := by
    simp only [ibin, ofInt_nat, bv_andNot, BitVec.toNat_and, BitVec.toNat_xor, BitVec.toNat_ofNat]; rfl
  have hg : (bif k.signed then none else some (gW .andNot k x y)) = some s → ibin .andNot k (Int.ofNat (evW ρ x)) (Int.ofNat (evW ρ y)) = some (s.inst ρ) := fun h => by
    cases hk : k.signed <;> rw [hk] at h <;> cases h
    rw [he]
    exact congrArg some (gW_inst ρ (op := .andNot) he (wrap_pos hk _).1 (wrap_pos hk _).2).symm
  unfold sNot at h
  split at h
  · rename_i q hq
    split at h
    · rename_i s' hs
      cases h
      rw [he]
      refine congrArg some (outW_inst ρ hs fun p hp => ?_).symm
      rw [zW_sound ρ _ _ _ _ _ hp, takeW_ev, zW_sound ρ _ _ _ _ _ hq, takeW_ev, takeW_ev]
      rfl
    · exact hg h
  · exact hg h
/-- Two numbers of a kind. -/
def sbin (G : List Asm) (op : BinOp) (k : IntKind) (x y : W) : Option SV :=
  match op with
  | .add => sAdd k x y
  | .sub => sSub k x y
  | .mul => sMul k x y
  | .quo => sQuo k x y
  | .rem => sRem k x y
  | .and => sBits .and .and k x y
  | .or => sBits .or .or k x y
  | .xor => sBits .xor .xor k x y
  | .andNot => sNot k x y
  | .eql => (eqW G x y).map bSV
  | .neq => (eqW G x y).map fun b => bSV !b
  | .lss => (ltW G x y).map bSV
  | .geq => (ltW G x y).map fun b => bSV !b
  | .gtr => (ltW G y x).map bSV
  | .leq => (ltW G y x).map fun b => bSV !b
  | _ => none
theorem sbin_inst {ρ : Nat → Nat} {G : List Asm} {op : BinOp} {k : IntKind} {x y : W} {s : SV} (hG : ∀ a ∈ G, a.ok ρ) (h : sbin G op k x y = some s) : ibin op k (Int.ofNat (evW ρ x)) (Int.ofNat (evW ρ y)) = some (s.inst ρ) := by
  have hlt : ∀ a b : Nat, decide (Int.ofNat a < Int.ofNat b) = decide (a < b) := fun a b => by
    simp only [Int.ofNat_eq_natCast, Int.ofNat_lt]
  cases op <;> simp only [sbin] at h
  case add => rw [sAdd_inst ρ h]; rfl
  case sub => rw [sSub_inst ρ h]; rfl
  case mul => rw [sMul_inst ρ h]; rfl
  case quo => exact sQuo_inst ρ h
  case rem => exact sRem_inst ρ h
  case and => exact sBits_inst ρ rfl h (and_eq _ _ _)
  case or => exact sBits_inst ρ rfl h (or_eq _ _ _)
  case xor => exact sBits_inst ρ rfl h (xor_eq _ _ _)
  case andNot => exact sNot_inst ρ h
  case eql =>
    obtain ⟨b, hb, rfl⟩ := Option.map_eq_some_iff.1 h
    rw [bSV_inst, ← eqW_spec hG hb, ibin]
    congr 2
    rw [Bool.eq_iff_iff]; simp; omega
  case neq =>
    obtain ⟨b, hb, rfl⟩ := Option.map_eq_some_iff.1 h
    rw [bSV_inst, ← eqW_spec hG hb, ibin]
    congr 2
    rw [Bool.eq_iff_iff]; simp; omega
  case lss =>
    obtain ⟨b, hb, rfl⟩ := Option.map_eq_some_iff.1 h
    rw [bSV_inst, ← ltW_spec hG hb, ibin, ← hlt]
  case geq =>
    obtain ⟨b, hb, rfl⟩ := Option.map_eq_some_iff.1 h
    rw [bSV_inst, ← ltW_spec hG hb, ibin, ← hlt]
    congr 2
    rw [Bool.eq_iff_iff]; simp
  case gtr =>
    obtain ⟨b, hb, rfl⟩ := Option.map_eq_some_iff.1 h
    rw [bSV_inst, ← ltW_spec hG hb, ibin, ← hlt]
  case leq =>
    obtain ⟨b, hb, rfl⟩ := Option.map_eq_some_iff.1 h
    rw [bSV_inst, ← ltW_spec hG hb, ibin, ← hlt]
    congr 2
    rw [Bool.eq_iff_iff]; simp
  all_goals cases h
/-- A number moved. -/
def sshift (op : BinOp) (k : IntKind) (x y : W) : Option SV :=
  match op with
  | .shl => match litOf y with
    | some a => outW k (some (upW (Nat.min a k.bits) x))
    | none => bif k.signed then none else some (gW .shl k x y)
  | .shr => match litOf y with
    | some a => some (mkI k (dropW (Nat.min a k.bits) x))
    | none => bif Nat.blt (hiW x) (2 ^ k.bits) then some (gW .shr k x y) else none
  | _ => none
theorem ishift_shl (k : IntKind) (a b : Nat) : ishift .shl k (Int.ofNat a) (Int.ofNat b) = some (.int k (k.wrap (Int.ofNat (a * 2 ^ Nat.min b k.bits)))) := by
  have h0 : decide (Int.ofNat b < 0) = false := decide_eq_false (by simp)
  rw [ishift, h0]
  simp only [cond_false]
  congr 3
theorem ishift_shr (k : IntKind) (a b : Nat) : ishift .shr k (Int.ofNat a) (Int.ofNat b) = some (.int k (Int.ofNat (a / 2 ^ Nat.min b k.bits))) := by
  have h0 : decide (Int.ofNat b < 0) = false := decide_eq_false (by simp)
  rw [ishift, h0]
  simp only [cond_false]
  congr 2
  have : ((2 : Int) ^ min (Int.ofNat b).toNat k.bits) = ((2 ^ Nat.min b k.bits : Nat) : Int) := by simp
  rw [this, Int.fdiv_eq_ediv_of_nonneg _ (Int.natCast_nonneg _)]
  rfl
theorem sshift_inst (ρ : Nat → Nat) {op : BinOp} {k : IntKind} {x y : W} {s : SV} (h : sshift op k x y = some s) : ishift op k (Int.ofNat (evW ρ x)) (Int.ofNat (evW ρ y)) = some (s.inst ρ) := by
  unfold sshift at h
  split at h
  · split at h
    · rename_i a ha
      rw [ishift_shl]
      refine congrArg some (outW_inst ρ h fun q hq => ?_).symm
      cases hq
      rw [upW_ev, litOf_ev ρ ha]
    · cases hk : k.signed <;> rw [hk] at h <;> cases h
      rw [ishift_shl]
      exact congrArg some (gW_inst ρ (op := .shl) (ishift_shl _ _ _) (wrap_pos hk _).1 (wrap_pos hk _).2).symm
  · split at h
    · rename_i a ha
      cases h
      rw [ishift_shr, mkI_inst, dropW_ev, litOf_ev ρ ha]
    · cases hb : Nat.blt (hiW x) (2 ^ k.bits) <;> rw [hb] at h <;> cases h
      have h1 := blt_lt hb
      have h2 := (boundsW ρ x).2
      rw [ishift_shr]
      refine congrArg some (gW_inst ρ (op := .shr) (ishift_shr _ _ _) (Int.natCast_nonneg _) ?_).symm
      have : ((2 : Int) ^ k.bits) = ((2 ^ k.bits : Nat) : Int) := by simp
      rw [this]
      show ((_ : Nat) : Int) < _
      have := Nat.div_le_self (evW ρ x) (2 ^ Nat.min (evW ρ y) k.bits)
      omega
  · cases h
end Go.Ev
