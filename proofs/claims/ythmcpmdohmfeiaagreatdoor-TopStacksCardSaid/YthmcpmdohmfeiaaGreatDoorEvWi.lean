/- Operations on values that are not known whole: structs and rows built, append, copy, calls. -/
import Derived.Test.YthmcpmdohmfeiaaGreatDoorEvWh
namespace Go.Ev
open Go
set_option linter.unusedVariables false
set_option linter.unusedSimpArgs false
set_option linter.constructorNameAsVariable false
noncomputable section
/-- Cells into cells. -/
def wrK (c : Cs) (off : Nat) (vs : List SV) (K : Cs → Bool) : Bool := leK c off (cwK vs off c K)
theorem wrK_true {c : Cs} {off : Nat} {vs : List SV} {K : Cs → Bool} (h : wrK c off vs K = true) : ∃ c', c'.toL = c.toL.take off ++ vs ++ c.toL.drop (off + vs.length) ∧ off + vs.length ≤ c.toL.length ∧ K c' = true := by
  obtain ⟨h1, h2⟩ := leK_true h
  exact cwK_true h2 h1
theorem fold_set (off : Nat) : ∀ (l : List Value) (k : Nat) (cs : Array Value), off + k + l.length ≤ cs.size →
    ((l.zipIdx k).foldl (fun cs (x : Value × Nat) => cs.setIfInBounds (off + x.2) x.1) cs).toList = cs.toList.take (off + k) ++ l ++ cs.toList.drop (off + k + l.length) := by
  intro l
  induction l with
  | nil => intro k cs h; simp
  | cons a l ih =>
    intro k cs h
    rw [List.zipIdx_cons, List.foldl_cons]
    simp only [List.length_cons] at h
    have hl : cs.toList.length = cs.size := Array.length_toList
    rw [ih (k + 1) _ (by simp only [Array.size_setIfInBounds]; omega), Array.toList_setIfInBounds]
    have e1 : (cs.toList.set (off + k) a).take (off + (k + 1)) = cs.toList.take (off + k) ++ [a] := by
      rw [show off + (k + 1) = off + k + 1 from rfl, List.take_add_one, List.take_set, List.set_eq_of_length_le (by rw [List.length_take]; omega), List.getElem?_set_self (by omega)]; rfl
    have e2 : (cs.toList.set (off + k) a).drop (off + (k + 1) + l.length) = cs.toList.drop (off + k + (a :: l).length) := by
      rw [List.drop_set_of_lt (by omega)]
      congr 1; simp only [List.length_cons]; omega
    rw [e1, e2]
    simp
theorem fold_arr (off : Nat) (vs : Array Value) (cs : Array Value) (h : off + vs.size ≤ cs.size) :
    (vs.zipIdx.foldl (fun cs (x : Value × Nat) => cs.setIfInBounds (off + x.2) x.1) cs).toList = cs.toList.take off ++ vs.toList ++ cs.toList.drop (off + vs.size) := by
  rw [← Array.foldl_toList, Array.toList_zipIdx]
  have := fold_set off vs.toList 0 cs (by simpa using h)
  simpa using this
def fillK (place : Nat → Option (Nat × Nat)) (parts : List (Nat × SV)) : Cs → (Cs → Bool) → Bool := List.rec (motive := fun _ => Cs → (Cs → Bool) → Bool) (fun c K => K c) (fun p _ ih c K => bnd (place p.1) fun q => lenK (cellsV p.2) q.2 (fN q.1 fun off => wrK c off (cellsV p.2) fun c => ih c K)) parts
theorem fillK_true (ρ : Nat → Nat) {place : Nat → Option (Nat × Nat)} : ∀ {parts : List (Nat × SV)} {c : Cs} {K : Cs → Bool} {cs : Array Value}, fillK place parts c K = true → cs.toList = c.toL.map (SV.inst ρ) → ∃ c' cs', Instr.fill place cs (instP ρ parts) = some cs' ∧ cs'.toList = c'.toL.map (SV.inst ρ) ∧ K c' = true := by
  intro parts
  induction parts with
  | nil => intro c K cs h hc; exact ⟨c, cs, rfl, hc, h⟩
  | cons p parts ih =>
    intro c K cs h hc
    obtain ⟨i, v⟩ := p
    obtain ⟨⟨off, size⟩, h1, h⟩ := bnd_true (r := place i) h
    obtain ⟨h2, h⟩ := lenK_true h
    simp only at h2
    rw [fN_eq] at h
    obtain ⟨c1, k1, k2, h⟩ := wrK_true h
    have hv : (v.inst ρ).cells.toList = (cellsV v).map (SV.inst ρ) := cellsV_inst ρ v
    have hvs : (v.inst ρ).cells.size = size := by rw [← Array.length_toList, hv, List.length_map, h2]
    have hcs : cs.size = c.toL.length := by rw [← Array.length_toList, hc, List.length_map]
    have hle : off + (v.inst ρ).cells.size ≤ cs.size := by
      rw [hvs, hcs]
      simp only [h2] at k2
      exact k2
    have hf := fold_arr off (v.inst ρ).cells cs hle
    obtain ⟨c', cs', g1, g2, g3⟩ := ih (cs := (v.inst ρ).cells.zipIdx.foldl (fun cs (x : Value × Nat) => cs.setIfInBounds (off + x.2) x.1) cs) h (by
      rw [hf, k1, hc, hv, hvs]
      simp only [List.map_append, List.map_take, List.map_drop]
      rw [h2])
    refine ⟨c', cs', ?_, g2, g3⟩
    show Instr.fill place cs ((i, v.inst ρ) :: instP ρ parts) = _
    simp only [Instr.fill, h1]
    rw [if_neg (by simp; omega)]
    exact g1
def lsK (c : Cs) (K : List SV → Bool) : Bool := Cs.rec (motive := fun _ => Bool) (fun l => K l) (fun _ _ => false) (fun _ _ => false) c
theorem lsK_true {c : Cs} {K : List SV → Bool} (h : lsK c K = true) : ∃ l, c = .ls l ∧ K l = true := by
  cases c with
  | ls l => exact ⟨l, rfl, h⟩
  | tr zs t => cases h
  | a n x => cases h
/-- How a type's parts lie, its zeros. -/
def bldI (T : Tab) (t : TypeId) : Option (Option (List (Nat × Nat)) × Nat) := match T.under t with
  | some (.struct fields) => match places T fields.toList with
    | some ps => some (some ps, 0)
    | none => none
  | some (.array _ e) => match T.size e with
    | some size => some (none, size)
    | none => none
  | _ => none
def zeroL (T : Tab) (t : TypeId) : Option (List SV) := match T.zero t with
  | some z => match cv z with
    | some s => some (cellsV s)
    | none => none
  | none => none
theorem zeroL_spec (ρ : Nat → Nat) {T : Tab} {t : TypeId} {l : List SV} (h : zeroL T t = some l) : ∃ z, T.zero t = some z ∧ closed z = true ∧ z.cells.toList = l.map (SV.inst ρ) := by
  unfold zeroL at h
  split at h
  · rename_i z hz
    split at h
    · rename_i s hs
      cases h
      obtain ⟨a, b⟩ := cv_spec ρ hs
      exact ⟨z, hz, b, by rw [← a, cellsV_inst]⟩
    · cases h
  · cases h
def plc (q : Option (List (Nat × Nat)) × Nat) : Nat → Option (Nat × Nat) := match q with
  | (some ps, _) => fun i => ps[i]?
  | (none, size) => fun i => some (i * size, size)
def bld0 (T : Tab) (t : TypeId) (parts : List (Nat × SV)) (K : SV → Bool) : Bool := bnd (bldI T t) fun q => bnd (zeroL T t) fun l => fillK (plc q) parts (.ls l) fun c => lsK c fun l => K (.ag l)
theorem bld0_true (ρ : Nat → Nat) {T : Tab} {t : TypeId} {parts : List (Nat × SV)} {K : SV → Bool} (h : bld0 T t parts K = true) : ∃ s, abuild T t (instP ρ parts) = some (SV.inst ρ s) ∧ K s = true := by
  obtain ⟨q, h1, h⟩ := bnd_true (r := bldI T t) h
  obtain ⟨l, h2, h⟩ := bnd_true (r := zeroL T t) h
  obtain ⟨z, z1, z2, z3⟩ := zeroL_spec ρ h2
  obtain ⟨c', cs', g1, g2, h⟩ := fillK_true ρ (c := .ls l) h z3
  obtain ⟨l', rfl, h⟩ := lsK_true h
  refine ⟨.ag l', ?_, h⟩
  have hr : (SV.ag l').inst ρ = .agg cs' := by
    rw [SV.inst]
    congr 1
    rw [← Array.toList_inj, g2, instL_map]; rfl
  rw [hr]
  unfold bldI at h1
  split at h1
  · rename_i fields hu
    split at h1
    · rename_i ps hp
      cases h1
      have g1 : Instr.fill (fun i => ps[i]?) z.cells (instP ρ parts) = some cs' := g1
      simp only [abuild, hu, z1, z2, cond_true, hp, g1]
    · cases h1
  · rename_i n e hu
    split at h1
    · rename_i size hs
      cases h1
      have g1 : Instr.fill (fun i => some (i * size, size)) z.cells (instP ρ parts) = some cs' := g1
      simp only [abuild, hu, z1, z2, cond_true, hs, g1]
    · cases h1
  · cases h1
def bldK (E : Env) (t : TypeId) (parts : List (Nat × SV)) (K : SV → Bool) : Bool := Option.rec (motive := fun _ => Bool) (bld0 E.T t parts K) (fun zs => isNilP2 parts (ifK (bldI E.T t).isSome (K (.big zs)) false)) (E.zt t)
where isNilP2 (l : List (Nat × SV)) (a : Bool) : Bool := match l with
  | [] => a
  | _ => false
theorem bldK_true {ρ : Nat → Nat} {E : Env} (hE : EnvOk ρ E) {t : TypeId} {parts : List (Nat × SV)} {K : SV → Bool} (h : bldK E t parts K = true) : ∃ s, abuild E.T t (instP ρ parts) = some (SV.inst ρ s) ∧ K s = true := by
  unfold bldK at h
  cases hz : E.zt t with
  | none => rw [hz] at h; exact bld0_true ρ h
  | some zs =>
    rw [hz] at h
    cases parts with
    | cons p r => cases h
    | nil =>
      obtain ⟨h1, h⟩ := ifF_true h
      refine ⟨.big zs, ?_, h⟩
      obtain ⟨q, h1⟩ := Option.isSome_iff_exists.1 h1
      have h0 := hE.zt t zs hz
      unfold bldI at h1
      split at h1
      · rename_i fields hu
        split at h1
        · rename_i ps hp
          simp only [abuild, hu, h0, closed_flat, cond_true, hp]
          rfl
        · cases h1
      · rename_i n e hu
        split at h1
        · rename_i size hs
          simp only [abuild, hu, h0, closed_flat, cond_true, hs]
          rfl
        · cases h1
      · cases h1
def hBuild (ty : TypeId) (ps : Array (Nat × Operand)) : Hd := fun E tm o t n K => evpK ps.toList tm fun l => bldK E ty l fun s => K s t n
theorem hBuild_ok {ρ : Nat → Nat} {E : Env} (hE : EnvOk ρ E) (ty : TypeId) (ps : Array (Nat × Operand)) : HdOk ρ E (.build ty ps) (hBuild ty ps) := by
  intro tm tr hT o t n K ho h
  obtain ⟨l, h1, h⟩ := evpK_true hT h
  obtain ⟨s, h2, h⟩ := bldK_true hE h
  exact opV s (by unfold aop; simp only [ho, h1, h2, val]) h
def sumP : List (Nat × SV) → Nat
  | [] => 0
  | p :: r => p.1 + sumP r
theorem sumP_len : ∀ zs, (baseL zs).length = sumP zs := by
  intro zs
  induction zs with
  | nil => rfl
  | cons p r ih =>
    have : baseL (p :: r) = List.replicate p.1 p.2 ++ baseL r := rfl
    rw [this, List.length_append, List.length_replicate, ih, sumP]
def bsI (T : Tab) (t : TypeId) : Option (TypeId × Nat) := match T.under t with
  | some (.slice e) => match T.size e with
    | some (s + 1) => some (e, s + 1)
    | _ => none
  | _ => none
def bsJ (E : Env) (ty : TypeId) (len : Nat) (l : List (Nat × SV)) (t : HT) (n : Nat) (K : KV) : Bool := bnd (bsI E.T ty) fun q => bnd (zeroP E q.1) fun zs =>
  ifK ((Nat.mul len q.2).ble 16777216 && (sumP zs).beq q.2) (fillK (plc (none, q.2)) l (manyC zs len) fun c => pushK ⟨c, q.1, false⟩ (.sl n 0 len len) t n K) false
def hBuildSlice (ty : TypeId) (len : Nat) (ps : Array (Nat × Operand)) : Hd := fun E tm o t n K => evpK ps.toList tm fun l => bsJ E ty len l t n K
theorem hBuildSlice_ok {ρ : Nat → Nat} {E : Env} (hE : EnvOk ρ E) (ty : TypeId) (len : Nat) (ps : Array (Nat × Operand)) : HdOk ρ E (.buildSlice ty len ps) (hBuildSlice ty len ps) := by
  intro tm tr hT o t n K ho h
  obtain ⟨l, h1, h⟩ := evpK_true hT h
  obtain ⟨⟨e, sz⟩, h2, h⟩ := bnd_true (r := bsI E.T ty) h
  obtain ⟨zs, h3, h⟩ := bnd_true (r := zeroP E e) h
  obtain ⟨h4, h⟩ := ifF_true h
  obtain ⟨z, z1, z2, z3⟩ := zeroP_spec hE h3
  have hc : (zerosOf z.cells.toList len).toArray.toList = (manyC zs len).toL.map (SV.inst ρ) := by
    rw [manyC_toL, baseL_many, zerosOf_flat, z3, List.map_flatten, List.map_replicate]
  obtain ⟨c', cs', g1, g2, h⟩ := fillK_true ρ h hc
  obtain ⟨t', ht, hk⟩ := pushK_true h
  clear h
  unfold bsI at h2
  split at h2
  · rename_i e' hu
    split at h2
    · rename_i s hs
      cases h2
      simp only [Bool.and_eq_true] at h4
      have g1 : Instr.fill (fun i => some (i * (s + 1), s + 1)) (zerosOf z.cells.toList len).toArray (instP ρ l) = some cs' := g1
      refine opV (.sl n 0 len len) (t' := t') (n' := n + 1) ?_ hk
      have hz : z.cells.size.beq (s + 1) = true := by
        have h5 := Nat.eq_of_beq_eq_true h4.2
        rw [← Array.length_toList, z3, List.length_map, sumP_len, h5]; simp
      have h6 : (len * (s + 1)).ble 16777216 = true := h4.1
      have : abuildSlice E.T ty len (instP ρ l) (instH ρ t n) = some ((SV.sl n 0 len len).inst ρ, instH ρ t' (n + 1)) := by
        simp only [abuildSlice, hu, hs, z1, h6, z2, hz, Bool.and_self, cond_true, g1, ht, SOb.inst, g2, SV.inst]
        rfl
      unfold aop
      simp only [ho, h1, this, val2]
    · cases h2
  · cases h2
/-! Append, copy -/
def catK (a b : List SV) (K : List SV → Bool) : Bool := List.rec (motive := fun _ => (List SV → Bool) → Bool) (fun K => K b) (fun v _ ih K => ih fun r => K (v :: r)) a K
theorem catK_eq (a b : List SV) : ∀ (K : List SV → Bool), catK a b K = K (a ++ b) := by
  induction a with
  | nil => intro K; rfl
  | cons v a ih => intro K; exact ih fun r => K (v :: r)
def srcK (sz : Nat) (x : SV) (t : HT) (K : Nat → List SV → Bool) : Bool := match x with
  | .ns => K 0 []
  | .sl b off m _ => obK b t fun c e r => fN (Nat.mul m sz) fun q => crK c off q fun l => K m l
  | .st s => bnd (bytesN s) fun q => ifK (sz.beq 1) (fN q.length fun m => K m s) false
  | _ => false
theorem bytes_back (ρ : Nat → Nat) {s : List SV} {q : List Nat} (h : bytesN s = some q) : (s.map (byteOf ρ)).map (fun b => (.int .u8 b.toNat : Value)) = s.map (SV.inst ρ) ∧ s.length = q.length := by
  induction s generalizing q with
  | nil => cases h; exact ⟨rfl, rfl⟩
  | cons v l ih =>
    unfold bytesN at h
    split at h
    · rename_i e; cases e
    · rename_i a r e
      cases e
      split at h
      · rename_i q' hq
        cases hb : a.blt 256 <;> rw [hb] at h <;> cases h
        obtain ⟨h1, h2⟩ := ih hq
        refine ⟨?_, by simp [h2]⟩
        rw [List.map_cons, List.map_cons, List.map_cons, h1]
        congr 1
        have := blt_lt hb
        simp only [byteOf, SV.inst]
        congr 1
        simp [Nat.mod_eq_of_lt this]
      · cases h
    · cases h
theorem srcK_true (ρ : Nat → Nat) {sz : Nat} {x : SV} {t : HT} {n : Nat} {K : Nat → List SV → Bool} (h : srcK sz x t K = true) : ∃ m l, asrc sz (x.inst ρ) (instH ρ t n) = some (m, l.map (SV.inst ρ)) ∧ K m l = true := by
  unfold srcK at h
  split at h
  · exact ⟨0, [], rfl, h⟩
  · rename_i b off m cp
    obtain ⟨c, e, r, h1, h⟩ := obK_true h
    rw [fN_eq] at h
    obtain ⟨h2, h⟩ := crK_true (c := c) (i := off) (n := Nat.mul m sz) (K := fun l => K m l) h
    refine ⟨m, _, ?_, h⟩
    have e1 : ((c.toL.map (SV.inst ρ)).drop off).take (m * sz) = ((c.toL.drop off).take (m * sz)).map (SV.inst ρ) := by rw [List.map_take, List.map_drop]
    have h2 : ((c.toL.drop off).take (m * sz)).length = m * sz := h2
    simp only [asrc, SV.inst, h1 ρ n, e1, List.length_map, h2, Nat.beq_refl, cond_true]
    rfl
  · rename_i s
    obtain ⟨q, h1, h⟩ := bnd_true (r := bytesN s) h
    obtain ⟨h2, h⟩ := ifF_true h
    rw [fN_eq] at h
    obtain ⟨h3, h4⟩ := bytes_back ρ h1
    refine ⟨q.length, s, ?_, h⟩
    simp only [asrc, SV.inst, h2, cond_true]
    congr 2
    show (s.map (byteOf ρ)).length = _
    rw [List.length_map, h4]
  · cases h
end
end Go.Ev
