/- Operations on values that are not known whole: places, slices, rows. -/
import Derived.Test.YthmcpmdohmfeiaaGreatDoorEvWg
namespace Go.Ev
open Go
set_option linter.unusedVariables false
set_option linter.unusedSimpArgs false
set_option linter.constructorNameAsVariable false
noncomputable section
/-- Has a block so many cells? -/
def leK (c : Cs) (i : Nat) (K : Bool) : Bool := Nat.rec (motive := fun _ => Bool) K (fun j _ => cgK c j fun _ => K) i
theorem leK_true {c : Cs} {i : Nat} {K : Bool} (h : leK c i K = true) : i ≤ c.toL.length ∧ K = true := by
  cases i with
  | zero => exact ⟨Nat.zero_le _, h⟩
  | succ j =>
    obtain ⟨v, h1, h2⟩ := cgK_true (c := c) (i := j) (K := fun _ => K) h
    exact ⟨(List.getElem?_eq_some_iff.1 h1).1, h2⟩
def natK (v : SV) (K : Nat → Bool) : Bool := Nn.rec (motive := fun _ => Bool) false (fun _ a => K a) (asN v)
theorem natK_true {v : SV} {K : Nat → Bool} (h : natK v K = true) : ∃ k a, v = .n k a ∧ K a = true := by
  unfold natK at h
  cases hv : asN v with
  | no => rw [hv] at h; cases h
  | yes k a => rw [hv] at h; exact ⟨k, a, asN_yes hv, h⟩
/-! Places of elements -/
def elI (T : Tab) (t : TypeId) : Option (Bool × Nat × Nat) := match T.under t with
  | some (.slice e) => match T.size e with
    | some n => some (true, 0, n)
    | none => none
  | some (.array len e) => match T.size e with
    | some n => some (false, len, n)
    | none => none
  | _ => none
def ixK (T : Tab) (t : TypeId) (u : SV) (i : Nat) (K : SV → Bool) : Bool := bnd (elI T t) fun q => match q with
  | (true, _, n) => (match u with
    | .sl b off len _ => ifK (Nat.blt i len) (fN (Nat.add off (Nat.mul i n)) fun o => K (.p b o)) false
    | _ => false)
  | (false, len, n) => (match u with
    | .p b off => ifK (Nat.blt i len) (fN (Nat.add off (Nat.mul i n)) fun o => K (.p b o)) false
    | _ => false)
theorem ixK_true (ρ : Nat → Nat) {T : Tab} {t : TypeId} {u : SV} {k : IntKind} {i : Nat} {K : SV → Bool} (h : ixK T t u i K = true) : ∃ s, aindexAddr T t (u.inst ρ) (.int k (.ofNat i)) = some (SV.inst ρ s) ∧ K s = true := by
  obtain ⟨q, h1, h⟩ := bnd_true (r := elI T t) h
  unfold elI at h1
  split at h1
  · rename_i e hu
    split at h1
    · rename_i n hs
      cases h1
      simp only at h
      split at h
      · obtain ⟨h2, h⟩ := ifF_true h
        rw [fN_eq] at h
        exact ⟨_, by simp only [aindexAddr, hu, SV.inst, hs, h2, cond_true]; rfl, h⟩
      · cases h
    · cases h1
  · rename_i len e hu
    split at h1
    · rename_i n hs
      cases h1
      simp only at h
      split at h
      · obtain ⟨h2, h⟩ := ifF_true h
        rw [fN_eq] at h
        exact ⟨_, by simp only [aindexAddr, hu, SV.inst, hs, h2, cond_true]; rfl, h⟩
      · cases h
    · cases h1
  · cases h1
def iaJ (E : Env) (ty : TypeId) (u v : SV) (K : SV → Bool) : Bool := natK v fun i => ixK E.T ty u i K
def hIndexAddr (ty : TypeId) (x ix : Operand) : Hd := fun E tm o t n K => evK x tm fun u => evK ix tm fun v => iaJ E ty u v fun s => K s t n
theorem hIndexAddr_ok (ρ : Nat → Nat) (E : Env) (ty : TypeId) (x ix : Operand) : HdOk ρ E (.indexAddr ty x ix) (hIndexAddr ty x ix) := by
  intro tm tr hT o t n K ho h
  obtain ⟨u, h1, h⟩ := evK_true hT h
  obtain ⟨v, h2, h⟩ := evK_true hT h
  obtain ⟨k, i, rfl, h'⟩ := natK_true h
  obtain ⟨s, h3, h⟩ := ixK_true ρ (k := k) h'
  exact opV s (by unfold aop; simp only [ho, h1, h2]; rw [SV.inst, h3]; rfl) h
def arI (T : Tab) (t : TypeId) : Option (Nat × Nat × (Bool × Nat)) := match T.under t with
  | some (.array len e) => match T.size e, ldI T e with
    | some n, some p => some (len, n, p)
    | _, _ => none
  | _ => none
def ixJ (E : Env) (ty : TypeId) (u v : SV) (K : SV → Bool) : Bool := aggK u fun l => natK v fun i => bnd (arI E.T ty) fun q => ifK (Nat.blt i q.1) (apK l (Nat.mul i q.2.1) q.2.2 K) false
def hIndex (ty : TypeId) (x ix : Operand) : Hd := fun E tm o t n K => evK x tm fun u => evK ix tm fun v => ixJ E ty u v fun s => K s t n
theorem hIndex_ok (ρ : Nat → Nat) (E : Env) (ty : TypeId) (x ix : Operand) : HdOk ρ E (.index ty x ix) (hIndex ty x ix) := by
  intro tm tr hT o t n K ho h
  obtain ⟨u, h1, h⟩ := evK_true hT h
  obtain ⟨v, h2, h⟩ := evK_true hT h
  obtain ⟨l, rfl, h⟩ := aggK_true h
  obtain ⟨k, i, rfl, h⟩ := natK_true h
  obtain ⟨⟨len, m, p⟩, h3, h⟩ := bnd_true (r := arI E.T ty) h
  obtain ⟨h4, h⟩ := ifF_true h
  unfold arI at h3
  split at h3
  · rename_i len' e hu
    split at h3
    · rename_i m' p' hs hp
      cases h3
      obtain ⟨s, h5, h⟩ := apK_true ρ hp h
      refine opV s ?_ h
      have : aindex E.T ty ((SV.ag l).inst ρ) ((SV.n k i).inst ρ) = some (s.inst ρ) := by
        simp only [aindex, SV.inst, hu, hs]
        have h4 : Nat.blt i len = true := h4
        rw [h4, cond_true]; exact h5
      unfold aop
      simp only [ho, h1, h2, this, orVal, val]
    · cases h3
  · cases h3
/-! Slices of slices -/
def boundK (v : Option SV) (d : Nat) (K : Nat → Bool) : Bool := match v with
  | none => K d
  | some (.n _ a) => K a
  | _ => false
def loV (v : Option Value) (d : Nat) : Option Nat := match v with
  | none => some d
  | some (.int _ (.ofNat l)) => some l
  | _ => none
theorem boundK_true (ρ : Nat → Nat) {v : Option SV} {d : Nat} {K : Nat → Bool} (h : boundK v d K = true) : ∃ a, loV (v.map (SV.inst ρ)) d = some a ∧ K a = true := by
  unfold boundK at h
  split at h
  · exact ⟨d, rfl, h⟩
  · exact ⟨_, rfl, h⟩
  · cases h
theorem aslice_eq (T : Tab) (t : TypeId) (x : Value) (lo hi : Option Value) : aslice T t x lo hi none = (match T.under t, x with
    | some (.slice e), .slice a len cap =>
      match T.size e, loV lo 0, loV hi len with
      | some size, some l, some h =>
        bif l.ble h then
          bif unk.ble cap then
            match a with
            | some ⟨b, off, none⟩ => bif h.ble len && cap.beq (unk + size) then some (.slice (some ⟨b, off + l * size, none⟩) (h - l) (unk + size)) else none
            | _ => none
          else bif h.ble cap then some (.slice (bif cap.beq l then a else a.map (·.add (l * size))) (h - l) (cap - l)) else none
        else none
      | _, _, _ => none
    | some (.array n e), .pointer (some ⟨b, off, none⟩) =>
      match T.size e, loV lo 0, loV hi n with
      | some size, some l, some h =>
        bif l.ble h && h.ble n && n.blt unk then some (.slice (some (bif n.beq l then ⟨b, off, none⟩ else (⟨b, off, none⟩ : Addr).add (l * size))) (h - l) (n - l)) else none
      | _, _, _ => none
    | _, _ => none) := by
  unfold aslice loV
  rfl
def slK (T : Tab) (t : TypeId) (v : SV) (lo hi : Option SV) (K : SV → Bool) : Bool := bnd (elI T t) fun q => match q with
  | (true, _, size) => (match v with
    | .sl b off len cap => boundK lo 0 fun l => boundK hi len fun h => ifK (l.ble h) (ifK (unk.ble cap)
        (ifK (h.ble len && cap.beq (unk + size)) (fN (Nat.add off (Nat.mul l size)) fun o => fN (Nat.sub h l) fun m => K (.sl b o m cap)) false)
        (ifK (h.ble cap) (fN (Nat.sub h l) fun m => fN (Nat.sub cap l) fun c => ifK (cap.beq l) (K (.sl b off m c)) (fN (Nat.add off (Nat.mul l size)) fun o => K (.sl b o m c))) false)) false
    | .ns => boundK lo 0 fun l => boundK hi 0 fun h => ifK (l.beq 0 && h.beq 0) (K .ns) false
    | _ => false)
  | (false, n, size) => (match v with
    | .p b off => boundK lo 0 fun l => boundK hi n fun h => ifK (l.ble h && h.ble n && n.blt unk) (fN (Nat.sub h l) fun m => fN (Nat.sub n l) fun c => ifK (n.beq l) (K (.sl b off m c)) (fN (Nat.add off (Nat.mul l size)) fun o => K (.sl b o m c))) false
    | _ => false)
theorem addr_add (b off k : Nat) : (⟨b, off, none⟩ : Addr).add k = ⟨b, off + k, none⟩ := by
  unfold Addr.add
  split
  · subst k; rfl
  · rfl
theorem slK_true (ρ : Nat → Nat) {T : Tab} {t : TypeId} {v : SV} {lo hi : Option SV} {K : SV → Bool} (h : slK T t v lo hi K = true) : ∃ s, aslice T t (v.inst ρ) (lo.map (SV.inst ρ)) (hi.map (SV.inst ρ)) none = some (SV.inst ρ s) ∧ K s = true := by
  rw [aslice_eq]
  obtain ⟨q, h1, h⟩ := bnd_true (r := elI T t) h
  unfold elI at h1
  split at h1
  · rename_i e hu
    split at h1
    · rename_i size hs
      cases h1
      simp only at h
      split at h
      · rename_i b off len cap _
        obtain ⟨l, h2, h⟩ := boundK_true ρ h
        obtain ⟨r, h3, h⟩ := boundK_true ρ h
        obtain ⟨h4, h⟩ := ifF_true h
        rcases ifK_true h with ⟨h5, h⟩ | ⟨h5, h⟩
        · obtain ⟨h6, h⟩ := ifF_true h
          rw [fN_eq, fN_eq] at h
          refine ⟨_, ?_, h⟩
          have h7 : cap = unk + size := by
            simp only [Bool.and_eq_true] at h6
            exact Nat.eq_of_beq_eq_true h6.2
          subst h7
          simp only [hu, SV.inst, hs, h2, h3, h4, h5, h6, cond_true]; rfl
        · obtain ⟨h6, h⟩ := ifF_true h
          rw [fN_eq, fN_eq] at h
          rcases ifK_true h with ⟨h7, h⟩ | ⟨h7, h⟩
          · exact ⟨_, by simp only [hu, SV.inst, hs, h2, h3, h4, h5, h6, h7, cond_true, cond_false]; rfl, h⟩
          · rw [fN_eq] at h
            exact ⟨_, by simp only [hu, SV.inst, hs, h2, h3, h4, h5, h6, h7, cond_true, cond_false, Option.map_some, addr_add]; rfl, h⟩
      · obtain ⟨l, h2, h⟩ := boundK_true ρ h
        obtain ⟨r, h3, h⟩ := boundK_true ρ h
        obtain ⟨h4, h⟩ := ifF_true h
        simp only [Bool.and_eq_true, Nat.beq_eq] at h4
        obtain ⟨rfl, rfl⟩ := h4
        exact ⟨.ns, by simp only [hu, SV.inst, hs, h2, h3]; rfl, h⟩
      · cases h
    · cases h1
  · rename_i len e hu
    split at h1
    · rename_i size hs
      cases h1
      simp only at h
      split at h
      · rename_i b off _
        obtain ⟨l, h2, h⟩ := boundK_true ρ h
        obtain ⟨r, h3, h⟩ := boundK_true ρ h
        obtain ⟨h4, h⟩ := ifF_true h
        rw [fN_eq, fN_eq] at h
        rcases ifK_true h with ⟨h7, h⟩ | ⟨h7, h⟩
        · exact ⟨_, by simp only [hu, SV.inst, hs, h2, h3, h4, h7, cond_true]; rfl, h⟩
        · rw [fN_eq] at h
          exact ⟨_, by simp only [hu, SV.inst, hs, h2, h3, h4, h7, cond_true, cond_false, addr_add]; rfl, h⟩
      · cases h
    · cases h1
  · cases h1
def hSlice (ty : TypeId) (x : Operand) (lo hi mx : Option Operand) : Hd := fun E tm o t n K => evK x tm fun v => evoK lo tm fun l => evoK hi tm fun h => match mx with
  | none => slK E.T ty v l h fun s => K s t n
  | some _ => false
theorem hSlice_ok (ρ : Nat → Nat) (E : Env) (ty : TypeId) (x : Operand) (lo hi mx : Option Operand) : HdOk ρ E (.slice ty x lo hi mx) (hSlice ty x lo hi mx) := by
  intro tm tr hT o t n K ho h
  obtain ⟨v, h1, h⟩ := evK_true hT h
  obtain ⟨l, h2, h⟩ := evoK_true hT h
  obtain ⟨r, h3, h⟩ := evoK_true hT h
  split at h
  · obtain ⟨s, h4, h⟩ := slK_true ρ h
    have h0 : aevalo tr none = some none := rfl
    exact opV s (by unfold aop; simp only [ho, h1, h2, h3, h0, h4, orVal, val]) h
  · cases h
/-! Rows of zeros -/
def runs : List SV → List (Nat × SV)
  | [] => []
  | v :: r => match v, runs r with
    | .n k a, (m, .n k' a') :: q => bif k == k' && a.beq a' then (m + 1, .n k a) :: q else (1, .n k a) :: (m, .n k' a') :: q
    | v, q => (1, v) :: q
theorem runs_base : ∀ l : List SV, baseL (runs l) = l := by
  intro l
  induction l with
  | nil => rfl
  | cons v r ih =>
    unfold runs
    split
    · rename_i k a m k' a' q hq
      rw [hq] at ih
      cases hb : k == k' && a.beq a'
      · simp only [cond_false]
        show [_] ++ baseL ((m, SV.n k' a') :: q) = _
        rw [ih]; rfl
      · simp only [Bool.and_eq_true, beq_iff_eq, Nat.beq_eq] at hb
        obtain ⟨rfl, rfl⟩ := hb
        simp only [cond_true]
        rw [← ih]
        simp [baseL, List.replicate_succ]
    · show [_] ++ baseL (runs r) = _
      rw [ih]; rfl
/-- A type's zeros as pieces. -/
def zeroP (E : Env) (e : TypeId) : Option (List (Nat × SV)) := match E.zt e with
  | some zs => some (Z0.ps zs)
  | none => match E.T.zero e with
    | some z => match cv z with
      | some s => some (runs (cellsV s))
      | none => none
    | none => none
theorem zeroP_spec {ρ : Nat → Nat} {E : Env} (hE : EnvOk ρ E) {e : TypeId} {zs : List (Nat × SV)} (h : zeroP E e = some zs) : ∃ z, E.T.zero e = some z ∧ closed z = true ∧ z.cells.toList = (baseL zs).map (SV.inst ρ) := by
  unfold zeroP at h
  split at h
  · rename_i zs' hz; cases h; exact ⟨_, hE.zt e zs' hz, closed_flat zs', flatZ_inst ρ zs'⟩
  · split at h
    · rename_i z hz
      split at h
      · rename_i s hs
        cases h
        obtain ⟨a, b⟩ := cv_spec ρ hs
        exact ⟨z, hz, b, by rw [runs_base, ← a, cellsV_inst]⟩
      · cases h
    · cases h
/-- So many of them. -/
def manyP (zs : List (Nat × SV)) (c : Nat) : List (Nat × SV) := match zs with
  | [(m, v)] => [(c * m, v)]
  | _ => (List.replicate c zs).flatten
theorem zerosOf_flat (z : List Value) (c : Nat) : zerosOf z c = (List.replicate c z).flatten := by
  unfold zerosOf
  split
  · rename_i v
    induction c with
    | zero => rfl
    | succ c ih => rw [List.replicate_succ, List.replicate_succ, List.flatten_cons, ih]; rfl
  · rfl
theorem baseL_app (a b : List (Nat × SV)) : baseL (a ++ b) = baseL a ++ baseL b := by simp [baseL]
theorem baseL_many (zs : List (Nat × SV)) (c : Nat) : baseL (manyP zs c) = (List.replicate c (baseL zs)).flatten := by
  have gen : baseL (List.replicate c zs).flatten = (List.replicate c (baseL zs)).flatten := by
    induction c with
    | zero => rfl
    | succ c ih => rw [List.replicate_succ, List.replicate_succ, List.flatten_cons, List.flatten_cons, baseL_app, ih]
  unfold manyP
  split
  · rename_i m v
    have : baseL [(c * m, v)] = List.replicate (c * m) v := by simp [baseL]
    rw [this]
    have e : baseL [(m, v)] = List.replicate m v := by simp [baseL]
    rw [e, List.flatten_replicate_replicate]
  · exact gen
/-- The cells of so many zeros. -/
def manyC (zs : List (Nat × SV)) (c : Nat) : Cs := match manyP zs c with
  | [(m, v)] => repC m v
  | ps => tabC (baseL ps)
theorem manyC_toL (zs : List (Nat × SV)) (c : Nat) : (manyC zs c).toL = baseL (manyP zs c) := by
  unfold manyC
  split
  · rename_i m v h; rw [h, repC_toL]; simp [baseL]
  · rw [tabC_toL]
def msI (T : Tab) (t : TypeId) : Option (TypeId × Nat) := match T.under t with
  | some (.slice e) => match T.bytes e, T.size e with
    | some by_, some (_ + 1) => some (e, by_)
    | _, _ => none
  | _ => none
def msJ (E : Env) (ty : TypeId) (u v : SV) (t : HT) (n : Nat) (K : KV) : Bool := natK u fun l => natK v fun c => bnd (msI E.T ty) fun q => bnd (zeroP E q.1) fun zs =>
  ifK (l.ble c && (Nat.mul q.2 c).ble 140737488355328 && c.ble 4611686018427387904) (pushK ⟨manyC zs c, q.1, false⟩ (.sl n 0 l c) t n K) false
def hMakeSlice (ty : TypeId) (l c : Operand) : Hd := fun E tm o t n K => evK l tm fun u => evK c tm fun v => msJ E ty u v t n K
theorem hMakeSlice_ok {ρ : Nat → Nat} {E : Env} (hE : EnvOk ρ E) (ty : TypeId) (l c : Operand) : HdOk ρ E (.makeSlice ty l c) (hMakeSlice ty l c) := by
  intro tm tr hT o t n K ho h
  obtain ⟨u, h1, h⟩ := evK_true hT h
  obtain ⟨v, h2, h⟩ := evK_true hT h
  obtain ⟨k, a, rfl, g1⟩ := natK_true h
  obtain ⟨k', b, rfl, g2⟩ := natK_true g1
  obtain ⟨⟨e, by_⟩, h3, h⟩ := bnd_true (r := msI E.T ty) g2
  obtain ⟨zs, h4, h⟩ := bnd_true (r := zeroP E e) h
  obtain ⟨h5, h⟩ := ifF_true h
  obtain ⟨t', ht, h⟩ := pushK_true h
  obtain ⟨z, z1, z2, z3⟩ := zeroP_spec hE h4
  unfold msI at h3
  split at h3
  · rename_i e' hu
    split at h3
    · rename_i by' m hb hs
      cases h3
      refine opV (.sl n 0 a b) (t' := t') (n' := n + 1) ?_ h
      have hc : zerosOf z.cells.toList b = (manyC zs b).toL.map (SV.inst ρ) := by
        rw [manyC_toL, baseL_many, zerosOf_flat, z3, List.map_flatten, List.map_replicate]
      have : amakeSlice E.T ty ((SV.n k a).inst ρ) ((SV.n k' b).inst ρ) (instH ρ t n) = some ((SV.sl n 0 a b).inst ρ, instH ρ t' (n + 1)) := by
        unfold amakeSlice
        have h5 : (a.ble b && (by_ * b).ble 140737488355328 && b.ble 4611686018427387904) = true := h5
        simp only [hu, SV.inst, nats, hb, hs, z1, z2, h5, Bool.and_true, cond_true, ht, SOb.inst, hc]
        rfl
      unfold aop
      simp only [ho, h1, h2, this, val2]
    · cases h3
  · cases h3
end
end Go.Ev
