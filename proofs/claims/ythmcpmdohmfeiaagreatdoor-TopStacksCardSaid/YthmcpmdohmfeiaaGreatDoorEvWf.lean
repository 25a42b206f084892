/- Operations on values that are not known whole: two values, changes of type. -/
import Derived.Test.YthmcpmdohmfeiaaGreatDoorEvWe
import Derived.Test.YthmcpmdohmfeiaaGreatDoorEvV
namespace Go.Ev
open Go
set_option linter.unusedVariables false
set_option linter.unusedSimpArgs false
set_option linter.constructorNameAsVariable false
noncomputable section
/-! Numbers are told in full before they go on. -/
def fSeg (s : Seg) (K : Seg → Bool) : Bool :=
  Seg.casesOn (motive_1 := fun _ => Bool) s (fun n w => fN n fun n => fN w fun w => K (.k n w)) (fun i o w => fN i fun i => fN o fun o => fN w fun w => K (.v i o w))
    (fun op q a b o w => fN o fun o => fN w fun w => K (.g op q a b o w)) (fun a b o w => fN o fun o => fN w fun w => K (.d a b o w)) (fun a b o w => fN o fun o => fN w fun w => K (.p a b o w))
theorem fSeg_eq (s : Seg) (K : Seg → Bool) : fSeg s K = K s := by cases s <;> simp only [fSeg, fN_eq]
def fW (x : W) : (W → Bool) → Bool := List.rec (motive := fun _ => (W → Bool) → Bool) (fun K => K []) (fun s _ ih K => fSeg s fun s => ih fun r => K (s :: r)) x
theorem fW_eq (x : W) : ∀ (K : W → Bool), fW x K = K x := by
  induction x with
  | nil => intro K; rfl
  | cons s r ih =>
    intro K
    show fSeg s (fun s => fW r fun r => K (s :: r)) = _
    rw [fSeg_eq, ih]
def fSV (v : SV) (K : SV → Bool) : Bool := match v with
  | .n k a => fN a fun a => K (.n k a)
  | .z k a => fN a fun a => K (.z k a)
  | .w k x => fW x fun x => K (.w k x)
  | v => K v
theorem fSV_eq (v : SV) (K : SV → Bool) : fSV v K = K v := by
  unfold fSV
  split
  · rw [fN_eq]
  · rw [fN_eq]
  · rw [fW_eq]
  · rfl
/-! Two known numbers -/
def genBin (op : BinOp) (k : IntKind) (a b : Nat) (K : SV → Bool) : Bool := bnd (ibin op k (Int.ofNat a) (Int.ofNat b)) fun v => bnd (cv0 v) fun s => fSV s K
def natBin (op : BinOp) (k : IntKind) (a b : Nat) (K : SV → Bool) : Bool := match op with
  | .eql => ifK (Nat.beq a b) (K .t) (K .f)
  | .neq => ifK (Nat.beq a b) (K .f) (K .t)
  | .lss => ifK (Nat.blt a b) (K .t) (K .f)
  | .geq => ifK (Nat.blt a b) (K .f) (K .t)
  | .gtr => ifK (Nat.blt b a) (K .t) (K .f)
  | .leq => ifK (Nat.blt b a) (K .f) (K .t)
  | .add => fN (Nat.add a b) fun c => ifK (Nat.blt c (lim k)) (K (.n k c)) (genBin .add k a b K)
  | .sub => ifK (Nat.blt a (lim k) && Nat.ble b a) (fN (Nat.sub a b) fun c => K (.n k c)) (genBin .sub k a b K)
  | .mul => fN (Nat.mul a b) fun c => ifK (Nat.blt c (lim k)) (K (.n k c)) (genBin .mul k a b K)
  | op => genBin op k a b K
theorem genBin_true (ρ : Nat → Nat) {op : BinOp} {k : IntKind} {a b : Nat} {K : SV → Bool} (h : genBin op k a b K = true) : ∃ s, ibin op k (Int.ofNat a) (Int.ofNat b) = some (s.inst ρ) ∧ K s = true := by
  obtain ⟨v, h1, h⟩ := bnd_true (r := ibin op k (Int.ofNat a) (Int.ofNat b)) h
  obtain ⟨s, h2, h⟩ := bnd_true (r := cv0 v) h
  rw [fSV_eq] at h
  exact ⟨s, by rw [h1, (cv0_spec ρ h2).1], h⟩
theorem nblt_dec (a b : Nat) : decide (Int.ofNat a < Int.ofNat b) = Nat.blt a b := by
  simp only [Int.ofNat_eq_natCast, Int.ofNat_lt]
  cases hb : Nat.blt a b
  · exact decide_eq_false fun q => by rw [show Nat.blt a b = true from Nat.ble_eq_true_of_le q] at hb; cases hb
  · exact decide_eq_true (blt_lt hb)
theorem nbeq_dec (a b : Nat) : (Int.ofNat a == Int.ofNat b) = Nat.beq a b := by
  cases hb : Nat.beq a b
  · rw [beq_eq_false_iff_ne]; exact fun q => Nat.ne_of_beq_eq_false hb (Int.ofNat.inj q)
  · rw [Nat.eq_of_beq_eq_true hb]; simp
theorem natBin_true (ρ : Nat → Nat) {op : BinOp} {k : IntKind} {a b : Nat} {K : SV → Bool} (h : natBin op k a b K = true) : ∃ s, ibin op k (Int.ofNat a) (Int.ofNat b) = some (s.inst ρ) ∧ K s = true := by
  have hc : ∀ {x : Bool} {p q : SV}, ifK x (K p) (K q) = true → ∃ s, s = (bif x then p else q) ∧ K s = true := fun {x p q} h => by
    cases x
    · exact ⟨q, rfl, h⟩
    · exact ⟨p, rfl, h⟩
  have hnb : ∀ x : Bool, (bif x then SV.f else SV.t) = bSV !x := fun x => by cases x <;> rfl
  have hb : ∀ x : Bool, (bif x then SV.t else SV.f) = bSV x := fun x => rfl
  unfold natBin at h
  split at h
  · obtain ⟨s, rfl, h⟩ := hc h
    exact ⟨_, by rw [hb, bSV_inst, ibin, nbeq_dec], h⟩
  · obtain ⟨s, rfl, h⟩ := hc h
    exact ⟨_, by rw [hnb, bSV_inst, ibin, bne, nbeq_dec], h⟩
  · obtain ⟨s, rfl, h⟩ := hc h
    exact ⟨_, by rw [hb, bSV_inst, ibin, nblt_dec], h⟩
  · obtain ⟨s, rfl, h⟩ := hc h
    refine ⟨_, ?_, h⟩
    rw [hnb, bSV_inst, ibin, ← nblt_dec]
    congr 2
    rw [Bool.eq_iff_iff]; simp
  · obtain ⟨s, rfl, h⟩ := hc h
    exact ⟨_, by rw [hb, bSV_inst, ibin, ← nblt_dec], h⟩
  · obtain ⟨s, rfl, h⟩ := hc h
    refine ⟨_, ?_, h⟩
    rw [hnb, bSV_inst, ibin, ← nblt_dec]
    congr 2
    rw [Bool.eq_iff_iff]; simp
  · rw [fN_eq] at h
    rcases ifK_true h with ⟨h1, h⟩ | ⟨_, h⟩
    · refine ⟨_, ?_, h⟩
      rw [ibin, SV.inst]
      have := wrap_lim (blt_lt h1)
      rw [show Int.ofNat a + Int.ofNat b = Int.ofNat (Nat.add a b) from rfl, this]
    · exact genBin_true ρ h
  · rcases ifK_true h with ⟨h1, h⟩ | ⟨_, h⟩
    · rw [fN_eq] at h
      simp only [Bool.and_eq_true] at h1
      refine ⟨_, ?_, h⟩
      have h2 := blt_lt h1.1
      have h3 := Nat.le_of_ble_eq_true h1.2
      have e : Int.ofNat a - Int.ofNat b = Int.ofNat (Nat.sub a b) := by
        show ((a : Nat) : Int) - ((b : Nat) : Int) = ((a - b : Nat) : Int)
        omega
      have h4 : Nat.sub a b < lim k := by
        show a - b < lim k
        omega
      rw [ibin, SV.inst, e, wrap_lim h4]
    · exact genBin_true ρ h
  · rw [fN_eq] at h
    rcases ifK_true h with ⟨h1, h⟩ | ⟨_, h⟩
    · refine ⟨_, ?_, h⟩
      rw [ibin, SV.inst]
      have := wrap_lim (blt_lt h1)
      rw [show Int.ofNat a * Int.ofNat b = Int.ofNat (Nat.mul a b) from rfl, this]
    · exact genBin_true ρ h
  · exact genBin_true ρ h
/-! Two numbers -/
def symK (G : List Asm) (op : BinOp) (k k' : IntKind) (x y : W) (K : SV → Bool) : Bool :=
  ifK (isShift op) (bnd (sshift op k x y) fun s => fSV s K) (ifK (k == k') (bnd (sbin G op k x y) fun s => fSV s K) false)
def intK (G : List Asm) (op : BinOp) (k k' : IntKind) (a b : Nat) (K : SV → Bool) : Bool :=
  ifK (isShift op) (bnd (ishift op k (Int.ofNat a) (Int.ofNat b)) fun v => bnd (cv0 v) fun s => fSV s K) (ifK (k == k') (natBin op k a b K) false)
def litK (T : Tab) (op : BinOp) (ty : TypeId) (u v : SV) (K : SV → Bool) : Bool := bnd (litV u) fun a => bnd (litV v) fun b => bnd (abin T op ty a b) fun r => bnd (cv0 r) fun s => fSV s K
def isPtr : Option TypeDesc → Bool | some (.pointer _) => true | _ => false
def isSl : Option TypeDesc → Bool | some (.slice _) => true | _ => false
def nilK (ok : Bool) (op : BinOp) (b : Bool) (K : SV → Bool) : Bool := ifK ok (match op with
  | .eql => K (bSV b)
  | .neq => K (bSV !b)
  | _ => false) false
def binK (G : List Asm) (T : Tab) (op : BinOp) (ty : TypeId) (u v : SV) (K : SV → Bool) : Bool := match u with
  | .n k a => (match v with
    | .n k' b => intK G op k k' a b K
    | .w k' y => symK G op k k' (litW a) y K
    | _ => litK T op ty u v K)
  | .w k x => (match v with
    | .n k' b => symK G op k k' x (litW b) K
    | .w k' y => symK G op k k' x y K
    | _ => false)
  | .np => (match v with
    | .np => nilK (isPtr (T.under ty)) op true K
    | .p _ _ => nilK (isPtr (T.under ty)) op false K
    | _ => false)
  | .p _ _ => (match v with
    | .np => nilK (isPtr (T.under ty)) op false K
    | _ => false)
  | .ns => (match v with
    | .ns => nilK (isSl (T.under ty)) op true K
    | .sl _ _ _ _ => nilK (isSl (T.under ty)) op false K
    | _ => false)
  | .sl _ _ _ _ => (match v with
    | .ns => nilK (isSl (T.under ty)) op false K
    | _ => false)
  | _ => litK T op ty u v K
/-! Two known numbers, by an operation that is known -/
abbrev NatF := IntKind → IntKind → Nat → Nat → (SV → Bool) → Bool
def natB (op : BinOp) : Bx NatF := BinOp.rec (motive := fun _ => Bx NatF)
  (.mk fun k k' a b K => ifK (k == k') (fN (Nat.add a b) fun c => ifK (Nat.ble (Nat.succ c) (lim k)) (K (.n k c)) (genBin .add k a b K)) false)
  (.mk fun k k' a b K => ifK (k == k') (ifK (Nat.ble b a) (ifK (Nat.ble (Nat.succ a) (lim k)) (fN (Nat.sub a b) fun c => K (.n k c)) (genBin .sub k a b K)) (genBin .sub k a b K)) false)
  (.mk fun k k' a b K => ifK (k == k') (fN (Nat.mul a b) fun c => ifK (Nat.ble (Nat.succ c) (lim k)) (K (.n k c)) (genBin .mul k a b K)) false)
  (.mk fun k k' a b K => ifK (k == k') (ifK (Nat.beq b 0) false (fN (Nat.div a b) fun c => ifK (Nat.ble (Nat.succ c) (lim k)) (K (.n k c)) (genBin .quo k a b K))) false)
  (.mk fun k k' a b K => ifK (k == k') (ifK (Nat.beq b 0) false (fN (Nat.mod a b) fun c => K (.n k c))) false)
  (.mk fun k k' a b K => intK [] .and k k' a b K) (.mk fun k k' a b K => intK [] .or k k' a b K) (.mk fun k k' a b K => intK [] .xor k k' a b K)
  (.mk fun k k' a b K => fN (Nat.mul a (Nat.pow 2 (Nat.min b 64))) fun c => ifK (Nat.ble (Nat.succ c) (lim k)) (ifK (Nat.ble b k.bits) (K (.n k c)) (intK [] .shl k k' a b K)) (intK [] .shl k k' a b K))
  (.mk fun k k' a b K => ifK (Nat.ble b k.bits) (fN (Nat.div a (Nat.pow 2 b)) fun c => K (.n k c)) (intK [] .shr k k' a b K))
  (.mk fun k k' a b K => intK [] .andNot k k' a b K)
  (.mk fun k k' a b K => ifK (k == k') (ifK (Nat.beq a b) (K .t) (K .f)) false)
  (.mk fun k k' a b K => ifK (k == k') (ifK (Nat.beq a b) (K .f) (K .t)) false)
  (.mk fun k k' a b K => ifK (k == k') (ifK (Nat.ble (Nat.succ a) b) (K .t) (K .f)) false)
  (.mk fun k k' a b K => ifK (k == k') (ifK (Nat.ble (Nat.succ b) a) (K .f) (K .t)) false)
  (.mk fun k k' a b K => ifK (k == k') (ifK (Nat.ble (Nat.succ b) a) (K .t) (K .f)) false)
  (.mk fun k k' a b K => ifK (k == k') (ifK (Nat.ble (Nat.succ a) b) (K .f) (K .t)) false) op
theorem symK_true {ρ : Nat → Nat} {G : List Asm} (hG : ∀ a ∈ G, a.ok ρ) {T : Tab} {op : BinOp} {ty : TypeId} {k k' : IntKind} {x y : W} {K : SV → Bool} (h : symK G op k k' x y K = true) :
    ∃ s, abin T op ty (.int k (Int.ofNat (evW ρ x))) (.int k' (Int.ofNat (evW ρ y))) = some (SV.inst ρ s) ∧ K s = true := by
  simp only [abin]
  rcases ifK_true h with ⟨h1, h⟩ | ⟨h1, h⟩
  · obtain ⟨s, h2, h⟩ := bnd_true (r := sshift op k x y) h
    rw [fSV_eq] at h
    exact ⟨s, by rw [h1, cond_true, sshift_inst ρ h2], h⟩
  · rcases ifK_true h with ⟨h3, h⟩ | ⟨_, h⟩
    · obtain ⟨s, h2, h⟩ := bnd_true (r := sbin G op k x y) h
      rw [fSV_eq] at h
      exact ⟨s, by rw [h1, cond_false, h3, cond_true, sbin_inst hG h2], h⟩
    · cases h
theorem intK_true (ρ : Nat → Nat) {G : List Asm} {T : Tab} {op : BinOp} {ty : TypeId} {k k' : IntKind} {a b : Nat} {K : SV → Bool} (h : intK G op k k' a b K = true) :
    ∃ s, abin T op ty (.int k (Int.ofNat a)) (.int k' (Int.ofNat b)) = some (SV.inst ρ s) ∧ K s = true := by
  simp only [abin]
  rcases ifK_true h with ⟨h1, h⟩ | ⟨h1, h⟩
  · obtain ⟨v, h2, h⟩ := bnd_true (r := ishift op k (Int.ofNat a) (Int.ofNat b)) h
    obtain ⟨s, h3, h⟩ := bnd_true (r := cv0 v) h
    rw [fSV_eq] at h
    exact ⟨s, by rw [h1, cond_true, h2, (cv0_spec ρ h3).1], h⟩
  · rcases ifK_true h with ⟨h3, h⟩ | ⟨_, h⟩
    · obtain ⟨s, h4, h⟩ := natBin_true ρ h
      exact ⟨s, by rw [h1, cond_false, h3, cond_true, h4], h⟩
    · cases h
theorem natB_true (ρ : Nat → Nat) {T : Tab} {op : BinOp} {ty : TypeId} {k k' : IntKind} {a b : Nat} {K : SV → Bool} (h : Bx.rec (motive := fun _ => Bool) (fun g => g k k' a b K) (natB op) = true) :
    ∃ s, abin T op ty (.int k (Int.ofNat a)) (.int k' (Int.ofNat b)) = some (SV.inst ρ s) ∧ K s = true := by
  have same : isShift op = false → k == k' → ∀ {s}, ibin op k (Int.ofNat a) (Int.ofNat b) = some (SV.inst ρ s) → abin T op ty (.int k (Int.ofNat a)) (.int k' (Int.ofNat b)) = some (SV.inst ρ s) := fun h1 h2 s h3 => by
    simp only [abin, h1, h2, cond_true, cond_false, h3]
  have viaG : ∀ {G : List Asm}, isShift op = false → k == k' → natBin op k a b K = true → ∃ s, abin T op ty (.int k (Int.ofNat a)) (.int k' (Int.ofNat b)) = some (SV.inst ρ s) ∧ K s = true := fun {G} h1 h2 h => by
    obtain ⟨s, h3, h4⟩ := natBin_true ρ h
    exact ⟨s, same h1 h2 h3, h4⟩
  cases op
  case add =>
    obtain ⟨h1, h⟩ := ifF_true h
    exact viaG (G := []) rfl h1 h
  case sub =>
    obtain ⟨h1, h⟩ := ifF_true h
    refine viaG (G := []) rfl h1 ?_
    show ifK (Nat.blt a (lim k) && Nat.ble b a) (fN (Nat.sub a b) fun c => K (.n k c)) (genBin .sub k a b K) = true
    rcases ifK_true h with ⟨h2, h⟩ | ⟨h2, h⟩
    · rcases ifK_true h with ⟨h3, h⟩ | ⟨h3, h⟩
      · rw [show Nat.blt a (lim k) = true from h3, h2]; exact h
      · rw [show Nat.blt a (lim k) = false from h3]; exact h
    · rw [h2, Bool.and_false]; exact h
  case mul =>
    obtain ⟨h1, h⟩ := ifF_true h
    exact viaG (G := []) rfl h1 h
  case quo =>
    obtain ⟨h1, h⟩ := ifF_true h
    rcases ifK_true h with ⟨_, h⟩ | ⟨h2, h⟩
    · cases h
    rw [fN_eq] at h
    rcases ifK_true h with ⟨h3, h⟩ | ⟨_, h⟩
    · refine ⟨_, same rfl h1 (s := .n k (Nat.div a b)) ?_, h⟩
      have hb := Nat.ne_of_beq_eq_false h2
      have e0 : (Int.ofNat b == 0) = false := by rw [beq_eq_false_iff_ne]; exact fun e => hb (Int.ofNat.inj e)
      rw [ibin, e0, cond_false]
      have e1 : (Int.ofNat a).tdiv (Int.ofNat b) = Int.ofNat (Nat.div a b) := rfl
      rw [e1, wrap_lim (Nat.le_of_ble_eq_true h3)]; rfl
    · obtain ⟨s, h3, h4⟩ := genBin_true ρ h
      exact ⟨s, same rfl h1 h3, h4⟩
  case rem =>
    obtain ⟨h1, h⟩ := ifF_true h
    rcases ifK_true h with ⟨_, h⟩ | ⟨h2, h⟩
    · cases h
    rw [fN_eq] at h
    refine ⟨_, same rfl h1 (s := .n k (Nat.mod a b)) ?_, h⟩
    have hb := Nat.ne_of_beq_eq_false h2
    have e0 : (Int.ofNat b == 0) = false := by rw [beq_eq_false_iff_ne]; exact fun e => hb (Int.ofNat.inj e)
    rw [ibin, e0, cond_false]; rfl
  case shl =>
    have h : (fN (Nat.mul a (Nat.pow 2 (Nat.min b 64))) fun c => ifK (Nat.ble (Nat.succ c) (lim k)) (ifK (Nat.ble b k.bits) (K (.n k c)) (intK [] .shl k k' a b K)) (intK [] .shl k k' a b K)) = true := h
    rw [fN_eq] at h
    rcases ifK_true h with ⟨h3, h⟩ | ⟨_, h⟩
    · rcases ifK_true h with ⟨h2, h⟩ | ⟨_, h⟩
      · have h2 := Nat.le_of_ble_eq_true h2
        have hk : k.bits ≤ 64 := by cases k <;> decide
        refine ⟨_, ?_, h⟩
        have e : Nat.min b 64 = b := Nat.min_eq_left (by omega)
        have e2 : Nat.min b k.bits = b := Nat.min_eq_left h2
        have := ishift_shl k a b
        rw [e2] at this
        have h3 : a * 2 ^ b < lim k := by
          have := Nat.le_of_ble_eq_true h3
          rw [e] at this; exact this
        simp only [abin, isShift, cond_true]
        rw [this, wrap_lim h3, e]; rfl
      · exact intK_true ρ h
    · exact intK_true ρ h
  case shr =>
    rcases ifK_true h with ⟨h2, h⟩ | ⟨_, h⟩
    · have h2 := Nat.le_of_ble_eq_true h2
      rw [fN_eq] at h
      refine ⟨_, ?_, h⟩
      have e2 : Nat.min b k.bits = b := Nat.min_eq_left h2
      have := ishift_shr k a b
      rw [e2] at this
      simp only [abin, isShift, cond_true]
      rw [this]; rfl
    · exact intK_true ρ h
  case and => exact intK_true ρ h
  case or => exact intK_true ρ h
  case xor => exact intK_true ρ h
  case andNot => exact intK_true ρ h
  all_goals
    obtain ⟨h1, h⟩ := ifF_true h
    exact viaG (G := []) rfl h1 h
theorem litK_true (ρ : Nat → Nat) {T : Tab} {op : BinOp} {ty : TypeId} {u v : SV} {K : SV → Bool} (h : litK T op ty u v K = true) : ∃ s, abin T op ty (u.inst ρ) (v.inst ρ) = some (SV.inst ρ s) ∧ K s = true := by
  obtain ⟨a, h1, h⟩ := bnd_true (r := litV u) h
  obtain ⟨b, h2, h⟩ := bnd_true (r := litV v) h
  obtain ⟨r, h3, h⟩ := bnd_true (r := abin T op ty a b) h
  obtain ⟨s, h4, h⟩ := bnd_true (r := cv0 r) h
  rw [fSV_eq] at h
  exact ⟨s, by rw [(litV_spec ρ h1).1, (litV_spec ρ h2).1, h3, (cv0_spec ρ h4).1], h⟩
theorem nilK_true (ρ : Nat → Nat) {ok : Bool} {op : BinOp} {b : Bool} {K : SV → Bool} (h : nilK ok op b K = true) : ok = true ∧ ((op = .eql ∧ K (bSV b) = true) ∨ (op = .neq ∧ K (bSV !b) = true)) := by
  rcases ifK_true h with ⟨h1, h⟩ | ⟨_, h⟩
  · refine ⟨h1, ?_⟩
    split at h
    · exact .inl ⟨rfl, h⟩
    · exact .inr ⟨rfl, h⟩
    · cases h
  · cases h
theorem isPtr_spec {d : Option TypeDesc} (h : isPtr d = true) : ∃ e, d = some (.pointer e) := by
  unfold isPtr at h
  split at h
  · exact ⟨_, rfl⟩
  · cases h
theorem isSl_spec {d : Option TypeDesc} (h : isSl d = true) : ∃ e, d = some (.slice e) := by
  unfold isSl at h
  split at h
  · exact ⟨_, rfl⟩
  · cases h
theorem binK_true {ρ : Nat → Nat} {G : List Asm} (hG : ∀ a ∈ G, a.ok ρ) {T : Tab} {op : BinOp} {ty : TypeId} {u v : SV} {K : SV → Bool} (h : binK G T op ty u v K = true) : ∃ s, abin T op ty (u.inst ρ) (v.inst ρ) = some (SV.inst ρ s) ∧ K s = true := by
  have e1 : ∀ (k : IntKind) (a : Nat), (SV.n k a).inst ρ = .int k (Int.ofNat (evW ρ (litW a))) := fun k a => by rw [litW_ev]; rfl
  unfold binK at h
  split at h
  · split at h
    · exact intK_true ρ h
    · rw [e1]; exact symK_true hG h
    · exact litK_true ρ h
  · split at h
    · rw [e1]; exact symK_true hG h
    · exact symK_true hG h
    · cases h
  · split at h
    all_goals first | (cases h; done) | skip
    all_goals
      obtain ⟨h1, h2⟩ := nilK_true ρ h
      clear h
      obtain ⟨e, he⟩ := isPtr_spec h1
      rcases h2 with ⟨rfl, h⟩ | ⟨rfl, h⟩
      · exact ⟨_, by rw [bSV_inst]; simp [abin, SV.inst, he], h⟩
      · exact ⟨_, by rw [bSV_inst]; simp [abin, SV.inst, he], h⟩
  · split at h
    all_goals first | (cases h; done) | skip
    all_goals
      obtain ⟨h1, h2⟩ := nilK_true ρ h
      clear h
      obtain ⟨e, he⟩ := isPtr_spec h1
      rcases h2 with ⟨rfl, h⟩ | ⟨rfl, h⟩
      · exact ⟨_, by rw [bSV_inst]; simp [abin, SV.inst, he], h⟩
      · exact ⟨_, by rw [bSV_inst]; simp [abin, SV.inst, he], h⟩
  · split at h
    all_goals first | (cases h; done) | skip
    all_goals
      obtain ⟨h1, h2⟩ := nilK_true ρ h
      clear h
      obtain ⟨e, he⟩ := isSl_spec h1
      rcases h2 with ⟨rfl, h⟩ | ⟨rfl, h⟩
      · exact ⟨_, by rw [bSV_inst]; simp [abin, SV.inst, he], h⟩
      · exact ⟨_, by rw [bSV_inst]; simp [abin, SV.inst, he], h⟩
  · split at h
    all_goals first | (cases h; done) | skip
    all_goals
      obtain ⟨h1, h2⟩ := nilK_true ρ h
      clear h
      obtain ⟨e, he⟩ := isSl_spec h1
      rcases h2 with ⟨rfl, h⟩ | ⟨rfl, h⟩
      · exact ⟨_, by rw [bSV_inst]; simp [abin, SV.inst, he], h⟩
      · exact ⟨_, by rw [bSV_inst]; simp [abin, SV.inst, he], h⟩
  · exact litK_true ρ h
end
end Go.Ev
