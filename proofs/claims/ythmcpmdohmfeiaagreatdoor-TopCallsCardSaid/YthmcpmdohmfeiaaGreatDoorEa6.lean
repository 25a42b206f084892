/- Operations on values that are not known whole: structs and rows built, append, copy, calls. -/
import Derived.Test.YthmcpmdohmfeiaaGreatDoorEa5
namespace Go.Ev
open Go
set_option linter.unusedVariables false
set_option linter.unusedSimpArgs false
set_option linter.constructorNameAsVariable false
noncomputable section
/-- Cells into cells. -/
def wrK (c : Cs) (off : Nat) (vs : List SV) (K : Cs → Bool) : Bool := leK c off (cwK vs off c K)
theorem wrK_true {c : Cs} {off : Nat} {vs : List SV} {K : Cs → Bool} (h : wrK c off vs K = true) : ∃ c', c'.toL = c.toL.take off ++ vs ++ c.toL.drop (off + vs.length) ∧ off + vs.length ≤ c.toL.length ∧ K c' = true := by
  obtain ⟨h1, h2⟩ := leK_true h
  exact cwK_true h2 h1
theorem fold_set (off : Nat) : ∀ (l : List Value) (k : Nat) (cs : Array Value), off + k + l.length ≤ cs.size →
    ((l.zipIdx k).foldl (fun cs (x : Value × Nat) => cs.setIfInBounds (off + x.2) x.1) cs).toList = cs.toList.take (off + k) ++ l ++ cs.toList.drop (off + k + l.length) := by
  intro l
  induction l with
  | nil => intro k cs h; simp
  | cons a l ih =>
    intro k cs h
    rw [List.zipIdx_cons, List.foldl_cons]
    simp only [List.length_cons] at h
    have hl : cs.toList.length = cs.size := Array.length_toList
    rw [ih (k + 1) _ (by simp only [Array.size_setIfInBounds]; omega), Array.toList_setIfInBounds]
    have e1 : (cs.toList.set (off + k) a).take (off + (k + 1)) = cs.toList.take (off + k) ++ [a] := by
      rw [show off + (k + 1) = off + k + 1 from rfl, List.take_add_one, List.take_set, List.set_eq_of_length_le (by rw [List.length_take]; omega), List.getElem?_set_self (by omega)]; rfl
    have e2 : (cs.toList.set (off + k) a).drop (off + (k + 1) + l.length) = cs.toList.drop (off + k + (a :: l).length) := by
      rw [List.drop_set_of_lt (by omega)]
      congr 1; simp only [List.length_cons]; omega
    rw [e1, e2]
    simp
theorem fold_arr (off : Nat) (vs : Array Value) (cs : Array Value) (h : off + vs.size ≤ cs.size) :
    (vs.zipIdx.foldl (fun cs (x : Value × Nat) => cs.setIfInBounds (off + x.2) x.1) cs).toList = cs.toList.take off ++ vs.toList ++ cs.toList.drop (off + vs.size) := by
  rw [← Array.foldl_toList, Array.toList_zipIdx]
  have := fold_set off vs.toList 0 cs (by simpa using h)
  simpa using this
def fillK (place : Nat → Option (Nat × Nat)) (parts : List (Nat × SV)) : Cs → (Cs → Bool) → Bool := List.rec (motive := fun _ => Cs → (Cs → Bool) → Bool) (fun c K => K c) (fun p _ ih c K => bnd (place p.1) fun q => lenK (cellsV p.2) q.2 (fN q.1 fun off => wrK c off (cellsV p.2) fun c => ih c K)) parts
theorem fillK_true (ρ : Nat → Nat) {place : Nat → Option (Nat × Nat)} : ∀ {parts : List (Nat × SV)} {c : Cs} {K : Cs → Bool} {cs : Array Value}, fillK place parts c K = true → cs.toList = c.toL.map (SV.inst ρ) → ∃ c' cs', Instr.fill place cs (instP ρ parts) = some cs' ∧ cs'.toList = c'.toL.map (SV.inst ρ) ∧ K c' = true := by
  intro parts
  induction parts with
  | nil => intro c K cs h hc; exact ⟨c, cs, rfl, hc, h⟩
  | cons p parts ih =>
    intro c K cs h hc
    obtain ⟨i, v⟩ := p
    obtain ⟨⟨off, size⟩, h1, h⟩ := bnd_true (r := place i) h
    obtain ⟨h2, h⟩ := lenK_true h
    simp only at h2
    rw [fN_eq] at h
    obtain ⟨c1, k1, k2, h⟩ := wrK_true h
    have hv : (v.inst ρ).cells.toList = (cellsV v).map (SV.inst ρ) := cellsV_inst ρ v
    have hvs : (v.inst ρ).cells.size = size := by rw [← Array.length_toList, hv, List.length_map, h2]
    have hcs : cs.size = c.toL.length := by rw [← Array.length_toList, hc, List.length_map]
    have hle : off + (v.inst ρ).cells.size ≤ cs.size := by
      rw [hvs, hcs]
      simp only [h2] at k2
      exact k2
    have hf := fold_arr off (v.inst ρ).cells cs hle
    obtain ⟨c', cs', g1, g2, g3⟩ := ih (cs := (v.inst ρ).cells.zipIdx.foldl (fun cs (x : Value × Nat) => cs.setIfInBounds (off + x.2) x.1) cs) h (by
      rw [hf, k1, hc, hv, hvs]
      simp only [List.map_append, List.map_take, List.map_drop]
      rw [h2])
    refine ⟨c', cs', ?_, g2, g3⟩
    show Instr.fill place cs ((i, v.inst ρ) :: instP ρ parts) = _
    simp only [Instr.fill, h1]
    rw [if_neg (by simp; omega)]
    exact g1
def lsK (c : Cs) (K : List SV → Bool) : Bool := Cs.rec (motive := fun _ => Bool) (fun l => K l) (fun _ _ => false) (fun _ _ => false) c
theorem lsK_true {c : Cs} {K : List SV → Bool} (h : lsK c K = true) : ∃ l, c = .ls l ∧ K l = true := by
  cases c with
  | ls l => exact ⟨l, rfl, h⟩
  | tr zs t => cases h
  | a n x => cases h
/-- How a type's parts lie, its zeros. -/
def bldI (T : Tab) (t : TypeId) : Option (Option (List (Nat × Nat)) × Nat) := match T.under t with
  | some (.struct fields) => match places T fields.toList with
    | some ps => some (some ps, 0)
    | none => none
  | some (.array _ e) => match T.size e with
    | some size => some (none, size)
    | none => none
  | _ => none
def zeroL (T : Tab) (t : TypeId) : Option (List SV) := match T.zero t with
  | some z => match cv z with
    | some s => some (cellsV s)
    | none => none
  | none => none
theorem zeroL_spec (ρ : Nat → Nat) {T : Tab} {t : TypeId} {l : List SV} (h : zeroL T t = some l) : ∃ z, T.zero t = some z ∧ closed z = true ∧ z.cells.toList = l.map (SV.inst ρ) := by
  unfold zeroL at h
  split at h
  · rename_i z hz
    split at h
    · rename_i s hs
      cases h
      obtain ⟨a, b⟩ := cv_spec ρ hs
      exact ⟨z, hz, b, by rw [← a, cellsV_inst]⟩
    · cases h
  · cases h
def plc (q : Option (List (Nat × Nat)) × Nat) : Nat → Option (Nat × Nat) := match q with
  | (some ps, _) => fun i => ps[i]?
  | (none, size) => fun i => some (i * size, size)
def bld0 (T : Tab) (t : TypeId) (parts : List (Nat × SV)) (K : SV → Bool) : Bool := bnd (bldI T t) fun q => bnd (zeroL T t) fun l => fillK (plc q) parts (.ls l) fun c => lsK c fun l => K (.ag l)
theorem bld0_true (ρ : Nat → Nat) {T : Tab} {t : TypeId} {parts : List (Nat × SV)} {K : SV → Bool} (h : bld0 T t parts K = true) : ∃ s, abuild T t (instP ρ parts) = some (SV.inst ρ s) ∧ K s = true := by
  obtain ⟨q, h1, h⟩ := bnd_true (r := bldI T t) h
  obtain ⟨l, h2, h⟩ := bnd_true (r := zeroL T t) h
  obtain ⟨z, z1, z2, z3⟩ := zeroL_spec ρ h2
  obtain ⟨c', cs', g1, g2, h⟩ := fillK_true ρ (c := .ls l) h z3
  obtain ⟨l', rfl, h⟩ := lsK_true h
  refine ⟨.ag l', ?_, h⟩
  have hr : (SV.ag l').inst ρ = .agg cs' := by
    rw [SV.inst]
    congr 1
    rw [← Array.toList_inj, g2, instL_map]; rfl
  rw [hr]
  unfold bldI at h1
  split at h1
  · rename_i fields hu
    split at h1
    · rename_i ps hp
      cases h1
      have g1 : Instr.fill (fun i => ps[i]?) z.cells (instP ρ parts) = some cs' := g1
      simp only [abuild, hu, z1, z2, cond_true, hp, g1]
    · cases h1
  · rename_i n e hu
    split at h1
    · rename_i size hs
      cases h1
      have g1 : Instr.fill (fun i => some (i * size, size)) z.cells (instP ρ parts) = some cs' := g1
      simp only [abuild, hu, z1, z2, cond_true, hs, g1]
    · cases h1
  · cases h1
def bldK (E : Env) (t : TypeId) (parts : List (Nat × SV)) (K : SV → Bool) : Bool := Option.rec (motive := fun _ => Bool) (bld0 E.T t parts K) (fun zs => isNilP2 parts (ifK (bldI E.T t).isSome (K (.big zs)) false)) (E.zt t)
where isNilP2 (l : List (Nat × SV)) (a : Bool) : Bool := match l with
  | [] => a
  | _ => false
theorem bldK_true {ρ : Nat → Nat} {E : Env} (hE : EnvOk ρ E) {t : TypeId} {parts : List (Nat × SV)} {K : SV → Bool} (h : bldK E t parts K = true) : ∃ s, abuild E.T t (instP ρ parts) = some (SV.inst ρ s) ∧ K s = true := by
  unfold bldK at h
  cases hz : E.zt t with
  | none => rw [hz] at h; exact bld0_true ρ h
  | some zs =>
    rw [hz] at h
    cases parts with
    | cons p r => cases h
    | nil =>
      obtain ⟨h1, h⟩ := ifF_true h
      refine ⟨.big zs, ?_, h⟩
      obtain ⟨q, h1⟩ := Option.isSome_iff_exists.1 h1
      have h0 := hE.zt t zs hz
      unfold bldI at h1
      split at h1
      · rename_i fields hu
        split at h1
        · rename_i ps hp
          simp only [abuild, hu, h0, closed_flat, cond_true, hp]
          rfl
        · cases h1
      · rename_i n e hu
        split at h1
        · rename_i size hs
          simp only [abuild, hu, h0, closed_flat, cond_true, hs]
          rfl
        · cases h1
      · cases h1
def hBuild (ty : TypeId) (ps : Array (Nat × Operand)) : Hd := fun E tm o t n K => evpK ps.toList tm fun l => bldK E ty l fun s => K s t n
theorem hBuild_ok {ρ : Nat → Nat} {E : Env} (hE : EnvOk ρ E) (ty : TypeId) (ps : Array (Nat × Operand)) : HdOk ρ E (.build ty ps) (hBuild ty ps) := by
  intro tm tr hT o t n K ho h
  obtain ⟨l, h1, h⟩ := evpK_true hT h
  obtain ⟨s, h2, h⟩ := bldK_true hE h
  exact opV s (by unfold aop; simp only [ho, h1, h2, val]) h
def sumP : List (Nat × SV) → Nat
  | [] => 0
  | p :: r => p.1 + sumP r
theorem sumP_len : ∀ zs, (baseL zs).length = sumP zs := by
  intro zs
  induction zs with
  | nil => rfl
  | cons p r ih =>
    have : baseL (p :: r) = List.replicate p.1 p.2 ++ baseL r := rfl
    rw [this, List.length_append, List.length_replicate, ih, sumP]
def bsI (T : Tab) (t : TypeId) : Option (TypeId × Nat) := match T.under t with
  | some (.slice e) => match T.size e with
    | some (s + 1) => some (e, s + 1)
    | _ => none
  | _ => none
def bsJ (E : Env) (ty : TypeId) (len : Nat) (l : List (Nat × SV)) (t : HT) (n : Nat) (K : KV) : Bool := bnd (bsI E.T ty) fun q => bnd (zeroP E q.1) fun zs =>
  ifK ((Nat.mul len q.2).ble 16777216 && (sumP zs).beq q.2) (fillK (plc (none, q.2)) l (manyC zs len) fun c => pushK ⟨c, q.1, false⟩ (.sl n 0 len len) t n K) false
def hBuildSlice (ty : TypeId) (len : Nat) (ps : Array (Nat × Operand)) : Hd := fun E tm o t n K => evpK ps.toList tm fun l => bsJ E ty len l t n K
theorem hBuildSlice_ok {ρ : Nat → Nat} {E : Env} (hE : EnvOk ρ E) (ty : TypeId) (len : Nat) (ps : Array (Nat × Operand)) : HdOk ρ E (.buildSlice ty len ps) (hBuildSlice ty len ps) := by
  intro tm tr hT o t n K ho h
  obtain ⟨l, h1, h⟩ := evpK_true hT h
  obtain ⟨⟨e, sz⟩, h2, h⟩ := bnd_true (r := bsI E.T ty) h
  obtain ⟨zs, h3, h⟩ := bnd_true (r := zeroP E e) h
  obtain ⟨h4, h⟩ := ifF_true h
  obtain ⟨z, z1, z2, z3⟩ := zeroP_spec hE h3
  have hc : (zerosOf z.cells.toList len).toArray.toList = (manyC zs len).toL.map (SV.inst ρ) := by
    rw [manyC_toL, baseL_many, zerosOf_flat, z3, List.map_flatten, List.map_replicate]
  obtain ⟨c', cs', g1, g2, h⟩ := fillK_true ρ h hc
  obtain ⟨t', ht, hk⟩ := pushK_true h
  clear h
  unfold bsI at h2
  split at h2
  · rename_i e' hu
    split at h2
    · rename_i s hs
      cases h2
      simp only [Bool.and_eq_true] at h4
      have g1 : Instr.fill (fun i => some (i * (s + 1), s + 1)) (zerosOf z.cells.toList len).toArray (instP ρ l) = some cs' := g1
      refine opV (.sl n 0 len len) (t' := t') (n' := n + 1) ?_ hk
      have hz : z.cells.size.beq (s + 1) = true := by
        have h5 := Nat.eq_of_beq_eq_true h4.2
        rw [← Array.length_toList, z3, List.length_map, sumP_len, h5]; simp
      have h6 : (len * (s + 1)).ble 16777216 = true := h4.1
      have : abuildSlice E.T ty len (instP ρ l) (instH ρ t n) = some ((SV.sl n 0 len len).inst ρ, instH ρ t' (n + 1)) := by
        simp only [abuildSlice, hu, hs, z1, h6, z2, hz, Bool.and_self, cond_true, g1, ht, SOb.inst, g2, SV.inst]
        rfl
      unfold aop
      simp only [ho, h1, this, val2]
    · cases h2
  · cases h2
/-! Append, copy -/
def catK (a b : List SV) (K : List SV → Bool) : Bool := List.rec (motive := fun _ => (List SV → Bool) → Bool) (fun K => K b) (fun v _ ih K => ih fun r => K (v :: r)) a K
theorem catK_eq (a b : List SV) : ∀ (K : List SV → Bool), catK a b K = K (a ++ b) := by
  induction a with
  | nil => intro K; rfl
  | cons v a ih => intro K; exact ih fun r => K (v :: r)
def srcK (sz : Nat) (x : SV) (t : HT) (K : Nat → List SV → Bool) : Bool := match x with
  | .ns => K 0 []
  | .sl b off m _ => obK b t fun c e r => fN (Nat.mul m sz) fun q => crK c off q fun l => K m l
  | .st s => bnd (bytesN s) fun q => ifK (sz.beq 1) (fN q.length fun m => K m s) false
  | _ => false
theorem bytes_back (ρ : Nat → Nat) {s : List SV} {q : List Nat} (h : bytesN s = some q) : (s.map (byteOf ρ)).map (fun b => (.int .u8 b.toNat : Value)) = s.map (SV.inst ρ) ∧ s.length = q.length := by
  induction s generalizing q with
  | nil => cases h; exact ⟨rfl, rfl⟩
  | cons v l ih =>
    unfold bytesN at h
    split at h
    · rename_i e; cases e
    · rename_i a r e
      cases e
      split at h
      · rename_i q' hq
        cases hb : a.blt 256 <;> rw [hb] at h <;> cases h
        obtain ⟨h1, h2⟩ := ih hq
        refine ⟨?_, by simp [h2]⟩
        rw [List.map_cons, List.map_cons, List.map_cons, h1]
        congr 1
        have := blt_lt hb
        simp only [byteOf, SV.inst]
        congr 1
        simp [Nat.mod_eq_of_lt this]
      · cases h
    · cases h
theorem srcK_true (ρ : Nat → Nat) {sz : Nat} {x : SV} {t : HT} {n : Nat} {K : Nat → List SV → Bool} (h : srcK sz x t K = true) : ∃ m l, asrc sz (x.inst ρ) (instH ρ t n) = some (m, l.map (SV.inst ρ)) ∧ K m l = true := by
  unfold srcK at h
  split at h
  · exact ⟨0, [], rfl, h⟩
  · rename_i b off m cp
    obtain ⟨c, e, r, h1, h⟩ := obK_true h
    rw [fN_eq] at h
    obtain ⟨h2, h⟩ := crK_true (c := c) (i := off) (n := Nat.mul m sz) (K := fun l => K m l) h
    refine ⟨m, _, ?_, h⟩
    have e1 : ((c.toL.map (SV.inst ρ)).drop off).take (m * sz) = ((c.toL.drop off).take (m * sz)).map (SV.inst ρ) := by rw [List.map_take, List.map_drop]
    have h2 : ((c.toL.drop off).take (m * sz)).length = m * sz := h2
    simp only [asrc, SV.inst, h1 ρ n, e1, List.length_map, h2, Nat.beq_refl, cond_true]
    rfl
  · rename_i s
    obtain ⟨q, h1, h⟩ := bnd_true (r := bytesN s) h
    obtain ⟨h2, h⟩ := ifF_true h
    rw [fN_eq] at h
    obtain ⟨h3, h4⟩ := bytes_back ρ h1
    refine ⟨q.length, s, ?_, h⟩
    simp only [asrc, SV.inst, h2, cond_true]
    congr 2
    show (s.map (byteOf ρ)).length = _
    rw [List.length_map, h4]
  · cases h
end
end Go.Ev
/- Operations on values that are not known whole: append, copy, len, min, max, clear. -/
namespace Go.Ev
open Go
set_option linter.unusedVariables false
set_option linter.unusedSimpArgs false
set_option linter.constructorNameAsVariable false
noncomputable section
def apI (T : Tab) (st xt : TypeId) : Option (TypeId × Nat × Nat) := match T.under st, T.under xt with
  | some (.slice e), some xd => bif isIntD xd then none else (match T.size e, T.bytes e, T.zero e with
    | some (s0 + 1), some (by_ + 1), some _ => some (e, s0 + 1, by_ + 1)
    | _, _, _ => none)
  | _, _ => none
def notB (x : SV) (b : Nat) (K : Bool) : Bool := match x with
  | .ns => K
  | .st _ => K
  | .sl b' _ _ _ => ifK (Nat.beq b' b) false K
  | _ => false
theorem notB_true (ρ : Nat → Nat) {x : SV} {b : Nat} {K : Bool} (h : notB x b K = true) : (blockOf (x.inst ρ) == some b) = false ∧ K = true := by
  unfold notB at h
  split at h
  · exact ⟨rfl, h⟩
  · exact ⟨rfl, h⟩
  · rcases ifK_true h with ⟨_, h⟩ | ⟨h1, h⟩
    · cases h
    · refine ⟨?_, h⟩
      rw [beq_eq_false_iff_ne]
      intro e
      simp only [SV.inst, blockOf, Option.some.injEq] at e
      exact Nat.ne_of_beq_eq_false h1 e
  · cases h
def isNil (l : List SV) (a b : Bool) : Bool := List.rec (motive := fun _ => Bool) a (fun _ _ _ => b) l
theorem isNil_true {l : List SV} {a b : Bool} (h : isNil l a b = true) : (l = [] ∧ a = true) ∨ (l ≠ [] ∧ b = true) := by
  cases l with
  | nil => exact .inl ⟨rfl, h⟩
  | cons v l => exact .inr ⟨List.cons_ne_nil _ _, h⟩
/-- A part of a block's cells, others behind it. -/
def rc0 (c : Cs) (off z w : Nat) (new : List SV) (K : Cs → Bool) : Bool := leK c z (crK c off w fun old => catK old new fun l => mkC l K)
def rcK (c : Cs) (off z w : Nat) (new : List SV) (K : Cs → Bool) : Bool := Cs.rec (motive := fun _ => Bool) (fun l => rc0 (.ls l) off z w new K) (fun zs t => rc0 (.tr zs t) off z w new K)
  (fun n x => ifK (Nat.beq off 0) (ifK (Nat.beq n w) (moreK new n x fun n x => K (.a n x)) (rc0 (.a n x) off z w new K)) (rc0 (.a n x) off z w new K)) c
theorem rc0_true {c : Cs} {off w : Nat} {new : List SV} {K : Cs → Bool} (h : rc0 c off (off + w) w new K = true) : ∃ c', c'.toL = (c.toL.drop off).take w ++ new ∧ off + w ≤ c.toL.length ∧ K c' = true := by
  obtain ⟨h1, h⟩ := leK_true h
  obtain ⟨h2, h⟩ := crK_true h
  rw [catK_eq] at h
  obtain ⟨c', h3, h⟩ := mkC_true h
  exact ⟨c', h3, h1, h⟩
theorem rcK_true {c : Cs} {off w : Nat} {new : List SV} {K : Cs → Bool} (h : rcK c off (off + w) w new K = true) : ∃ c', c'.toL = (c.toL.drop off).take w ++ new ∧ off + w ≤ c.toL.length ∧ K c' = true := by
  cases c with
  | ls l => exact rc0_true h
  | tr zs t => exact rc0_true h
  | a n x =>
    rcases ifK_true h with ⟨h1, k1⟩ | ⟨_, h⟩
    · rcases ifK_true k1 with ⟨h2, k2⟩ | ⟨_, h⟩
      · clear h k1
        obtain rfl := Nat.eq_of_beq_eq_true h1
        obtain rfl := Nat.eq_of_beq_eq_true h2
        obtain ⟨m, y, h3, h⟩ := moreK_true k2
        refine ⟨_, ?_, by rw [toL_a_len]; omega, h⟩
        rw [h3, List.drop_zero, List.take_of_length_le (by rw [toL_a_len]; exact Nat.le_refl _)]
      · exact rc0_true h
    · exact rc0_true h
def appK (T : Tab) (st xt : TypeId) (s x : SV) (t : HT) (n : Nat) (K : KV) : Bool := bnd (apI T st xt) fun q => srcK q.2.1 x t fun m new => match s with
  | .ns => ifK (m.beq 0) (K .ns t n) (ifK ((Nat.mul m q.2.2).ble 140737488355328) (mkC new fun c => fN (Nat.add unk q.2.1) fun u => pushK ⟨c, q.1, false⟩ (.sl n 0 m u) t n K) false)
  | .sl b off len cap => notB x b (obK b t fun c e r => ifK r false (
      ifK (unk.ble cap)
        (ifK (Nat.beq e q.1) (ifK (m.beq 0) (K (.sl b off len cap) t n) (ifK ((Nat.mul (Nat.add len m) q.2.2).ble 140737488355328) (onesK new (fN (Nat.mul len q.2.1) fun w => fN (Nat.add off w) fun z => rcK c off z w new fun c => fN (Nat.add unk q.2.1) fun u => fN (Nat.add len m) fun g =>
          hpK b none t fun t => pushK ⟨c, q.1, false⟩ (.sl n 0 g u) t n K)) false)) false)
        (ifK (len.beq 0 && cap.beq 0 && m.beq 0)
          (ifK (Nat.beq e q.1) (leK c off (fN (Nat.add unk q.2.1) fun u => K (.sl b off 0 u) t n)) false)
          (ifK ((Nat.add len m).ble cap)
            (fN (Nat.add off (Nat.mul len q.2.1)) fun z => fN (Nat.add len m) fun g => onesK new (wrK c z new fun c => hpK b (some ⟨c, e, false⟩) t fun t => K (.sl b off g cap) t n))
            (ifK (m.beq 0) false (ifK ((Nat.mul (Nat.add len m) q.2.2).ble 140737488355328) (fN (Nat.mul len q.2.1) fun w => fN (Nat.add off w) fun z => rcK c off z w new fun c => fN (Nat.add unk q.2.1) fun u => fN (Nat.add len m) fun g =>
              pushK ⟨c, q.1, false⟩ (.sl n 0 g u) t n K) false))))))
  | _ => false
theorem wr_put (ρ : Nat → Nat) {b : Nat} {z : Nat} {new : List SV} {t t' : HT} {n : Nat} {c c' : Cs} {e : TypeId} (h1 : ∀ ρ n, (instH ρ t n).get b = some ⟨c.toL.map (SV.inst ρ), e, false⟩) (h4 : ∀ ρ n, instH ρ t' n = (instH ρ t n).put b (SOb.inst ρ ⟨c', e, false⟩)) (h2 : (new.map (SV.inst ρ)).all one = true) (k1 : c'.toL = c.toL.take z ++ new ++ c.toL.drop (z + new.length)) (k2 : z + new.length ≤ c.toL.length) :
    aput b z (new.map (SV.inst ρ)) (instH ρ t n) = some (instH ρ t' n) := by
  have hl : (z + (new.map (SV.inst ρ)).length).ble (c.toL.map (SV.inst ρ)).length = true := Nat.ble_eq_true_of_le (by simpa using k2)
  simp only [aput, h1 ρ n, h2, hl, Bool.not_false, Bool.and_self, cond_true, h4, SOb.inst, k1]
  congr 3
  rw [splice_eq _ _ _ (by simpa using k2)]
  simp [List.map_take, List.map_drop]
theorem appK_true (ρ : Nat → Nat) {T : Tab} {st xt : TypeId} {s x : SV} {t : HT} {n : Nat} {K : KV} (h : appK T st xt s x t n K = true) :
    ∃ v t' n', aappend T st xt (s.inst ρ) (x.inst ρ) (instH ρ t n) = some (SV.inst ρ v, instH ρ t' n') ∧ K v t' n' = true := by
  obtain ⟨q, h1, h⟩ := bnd_true (r := apI T st xt) h
  obtain ⟨m, new, h2, h⟩ := srcK_true ρ (n := n) h
  unfold apI at h1
  split at h1
  · rename_i e0 xd hs hx
    cases hi : isIntD xd <;> rw [hi] at h1
    · simp only [cond_false] at h1
      split at h1
      · rename_i s0 by_ z0 hz hb hz0
        cases h1
        simp only at h h2
        have start : aappend T st xt (s.inst ρ) (x.inst ρ) (instH ρ t n) = (match s.inst ρ with
          | .slice base len cap => match base with
            | none =>
              bif len.beq 0 && cap.beq 0 then
                bif m.beq 0 then some (s.inst ρ, instH ρ t n) else bif (m * (by_ + 1)).ble 140737488355328 then some (.slice (some ⟨n, 0, none⟩) m (unk + (s0 + 1)), (instH ρ t n).push ⟨new.map (SV.inst ρ), e0, false⟩) else none
              else none
            | some ⟨b, off, none⟩ =>
              bif blockOf (x.inst ρ) == some b then none else
              match (instH ρ t n).get b with
              | some o =>
                bif o.ro then none else
                bif unk.ble cap then
                  bif o.elem.beq e0 then
                  bif m.beq 0 then some (s.inst ρ, instH ρ t n) else
                  bif (off + len * (s0 + 1)).ble o.cells.length && (new.map (SV.inst ρ)).all one && ((len + m) * (by_ + 1)).ble 140737488355328 then some (.slice (some ⟨n, 0, none⟩) (len + m) (unk + (s0 + 1)), ((instH ρ t n).kill b).push ⟨(o.cells.drop off).take (len * (s0 + 1)) ++ new.map (SV.inst ρ), e0, false⟩) else none
                  else none
                else bif len.beq 0 && cap.beq 0 && m.beq 0 then
                  bif o.elem.beq e0 && off.ble o.cells.length then some (.slice (some ⟨b, off, none⟩) 0 (unk + (s0 + 1)), instH ρ t n) else none
                else bif (len + m).ble cap then
                  match aput b (off + len * (s0 + 1)) (new.map (SV.inst ρ)) (instH ρ t n) with
                  | some H' => some (.slice (some ⟨b, off, none⟩) (len + m) cap, H')
                  | none => none
                else bif m.beq 0 then none else
                  bif (off + len * (s0 + 1)).ble o.cells.length && ((len + m) * (by_ + 1)).ble 140737488355328 then some (.slice (some ⟨n, 0, none⟩) (len + m) (unk + (s0 + 1)), (instH ρ t n).push ⟨(o.cells.drop off).take (len * (s0 + 1)) ++ new.map (SV.inst ρ), e0, false⟩) else none
              | none => none
            | _ => none
          | _ => none) := by
          unfold aappend
          cases s <;> simp only [hs, hx, SV.inst, hi, cond_false, hz, hb, hz0, h2] <;> rfl
        rw [start]
        split at h
        · simp only [SV.inst]
          rcases ifK_true h with ⟨h3, h⟩ | ⟨h3, h⟩
          · exact ⟨.ns, t, n, by simp only [h3, cond_true]; rfl, h⟩
          · obtain ⟨h4, h⟩ := ifF_true h
            obtain ⟨c1, hc1, h⟩ := mkC_true h
            rw [fN_eq] at h
            obtain ⟨t', ht, h⟩ := pushK_true h
            refine ⟨_, t', n + 1, ?_, h⟩
            have h4 : (m * (by_ + 1)).ble 140737488355328 = true := h4
            simp only [h3, h4, cond_true, cond_false, ht, SOb.inst, SV.inst, hc1]; rfl
        · rename_i b off len cap _ _
          obtain ⟨hb1, h⟩ := notB_true ρ h
          obtain ⟨c, e, r, g1, h⟩ := obK_true h
          simp only [SV.inst, hb1, cond_false, g1 ρ n]
          cases r
          rotate_left
          · cases h
          rcases ifK_true (b := false) h with ⟨hr, _⟩ | ⟨_, h⟩
          · cases hr
          simp only [cond_false]
          rcases ifK_true h with ⟨h3, h⟩ | ⟨h3, h⟩
          · rw [h3, cond_true]
            obtain ⟨h4, h⟩ := ifF_true h
            have h4 : e.beq e0 = true := h4
            rw [h4, cond_true]
            rcases ifK_true h with ⟨h5, h⟩ | ⟨h5, h⟩
            · exact ⟨.sl b off len cap, t, n, by rw [h5]; rfl, h⟩
            · rw [h5, cond_false]
              obtain ⟨h6, h⟩ := ifF_true h
              obtain ⟨h7, h⟩ := onesK_true ρ h
              rw [fN_eq, fN_eq] at h
              obtain ⟨c1, hc1, h8, h⟩ := rcK_true h
              rw [fN_eq, fN_eq] at h
              obtain ⟨t1, ht1, h⟩ := hpK_kill h
              obtain ⟨t', ht, h⟩ := pushK_true h
              refine ⟨_, t', n + 1, ?_, h⟩
              have h6 : ((len + m) * (by_ + 1)).ble 140737488355328 = true := h6
              have h8 : (off + len * (s0 + 1)).ble (c.toL.map (SV.inst ρ)).length = true := Nat.ble_eq_true_of_le (by simpa using h8)
              rw [h8, h7, h6]
              simp only [Bool.and_self, cond_true, ht, ht1, SOb.inst, SV.inst, hc1, List.map_append, List.map_take, List.map_drop]
              rfl
          · rw [h3, cond_false]
            rcases ifK_true h with ⟨h4, h⟩ | ⟨h4, h⟩
            · rw [h4, cond_true]
              obtain ⟨h5, h⟩ := ifF_true h
              obtain ⟨h6, h⟩ := leK_true h
              rw [fN_eq] at h
              refine ⟨_, t, n, ?_, h⟩
              have h5 : e.beq e0 = true := h5
              have h6 : off.ble (c.toL.map (SV.inst ρ)).length = true := Nat.ble_eq_true_of_le (by simpa using h6)
              rw [h5, h6]; rfl
            · rw [h4, cond_false]
              rcases ifK_true h with ⟨h5, h⟩ | ⟨h5, h⟩
              · have h5 : (len + m).ble cap = true := h5
                rw [h5, cond_true]
                rw [fN_eq, fN_eq] at h
                obtain ⟨h6, h⟩ := onesK_true ρ h
                obtain ⟨c', k1, k2, h⟩ := wrK_true h
                obtain ⟨t', ht, h⟩ := hpK_true h
                refine ⟨_, t', n, ?_, h⟩
                have := wr_put ρ (n := n) g1 ht h6 k1 k2
                have this : aput b (off + len * (s0 + 1)) (new.map (SV.inst ρ)) (instH ρ t n) = _ := this
                rw [this]; rfl
              · have h5 : (len + m).ble cap = false := h5
                rw [h5, cond_false]
                rcases ifK_true h with ⟨_, h⟩ | ⟨h6, h⟩
                · cases h
                rw [h6, cond_false]
                obtain ⟨h7, h⟩ := ifF_true h
                rw [fN_eq, fN_eq] at h
                obtain ⟨c1, hc1, h8, h⟩ := rcK_true h
                rw [fN_eq, fN_eq] at h
                obtain ⟨t', ht, h⟩ := pushK_true h
                refine ⟨_, t', n + 1, ?_, h⟩
                have h7 : ((len + m) * (by_ + 1)).ble 140737488355328 = true := h7
                have h8 : (off + len * (s0 + 1)).ble (c.toL.map (SV.inst ρ)).length = true := Nat.ble_eq_true_of_le (by simpa using h8)
                rw [h8, h7]
                simp only [Bool.and_self, cond_true, ht, SOb.inst, SV.inst, hc1, List.map_append, List.map_take, List.map_drop]
                rfl
        · cases h
      · cases h1
    · cases h1
  · cases h1
end
end Go.Ev
/- Operations on values that are not known whole: calls. -/
namespace Go.Ev
open Go
set_option linter.unusedVariables false
set_option linter.unusedSimpArgs false
set_option linter.constructorNameAsVariable false
noncomputable section
def cpI (T : Tab) (t : TypeId) : Option Nat := match T.under t with
  | some (.slice e) => match T.size e with
    | some (s + 1) => some (s + 1)
    | _ => none
  | _ => none
def trimK (d : Nat) (x : SV) (K : Nat → SV → Bool) : Bool := match x with
  | .ns => K 0 .ns
  | .sl b off m c => fN (Nat.min m d) fun q => K q (.sl b off q c)
  | .st s => ifK (s.length.ble d) (fN s.length fun q => K q (.st s)) false
  | _ => false
theorem trimK_true (ρ : Nat → Nat) {d : Nat} {x : SV} {K : Nat → SV → Bool} (h : trimK d x K = true) : ∃ q y, atrim d (x.inst ρ) = some (q, SV.inst ρ y) ∧ K q y = true := by
  unfold trimK at h
  split at h
  · exact ⟨0, .ns, by show some (Nat.min 0 d, Value.slice none (Nat.min 0 d) 0) = _; rw [show Nat.min 0 d = 0 from Nat.zero_min d]; rfl, h⟩
  · rw [fN_eq] at h
    exact ⟨_, _, rfl, h⟩
  · rename_i s
    obtain ⟨h1, h⟩ := ifF_true h
    rw [fN_eq] at h
    refine ⟨s.length, .st s, ?_, h⟩
    have h2 := Nat.le_of_ble_eq_true h1
    simp only [SV.inst, atrim]
    have hs : (⟨⟨s.map (byteOf ρ)⟩⟩ : ByteArray).size = s.length := by
      show (s.map (byteOf ρ)).length = _
      rw [List.length_map]
    have hm : Nat.min (⟨⟨s.map (byteOf ρ)⟩⟩ : ByteArray).size d = s.length := by rw [hs]; exact Nat.min_eq_left h2
    rw [hm]
    congr 3
    have : (⟨⟨s.map (byteOf ρ)⟩⟩ : ByteArray).extract 0 s.length = ⟨⟨s.map (byteOf ρ)⟩⟩ := by
      conv => lhs; rw [← hs]
      exact ByteArray.extract_zero_size
    exact this
  · cases h
def lenD : SV → Option Nat
  | .ns => some 0
  | .sl _ _ m _ => some m
  | _ => none
def cpyK (T : Tab) (dt : TypeId) (d x : SV) (t : HT) (n : Nat) (K : KV) : Bool := bnd (cpI T dt) fun sz => bnd (lenD d) fun dl => trimK dl x fun q y => srcK sz y t fun m l => isNil l (K (.n .i64 q) t n) (match d with
  | .sl b off _ _ => obK b t fun c e r => Bool.rec (motive := fun _ => Bool) (onesK l (wrK c off l fun c => hpK b (some ⟨c, e, false⟩) t fun t => K (.n .i64 q) t n)) false r
  | _ => false)
theorem cpyK_true (ρ : Nat → Nat) {T : Tab} {dt : TypeId} {d x : SV} {t : HT} {n : Nat} {K : KV} (h : cpyK T dt d x t n K = true) :
    ∃ v t' n', acopy T dt (d.inst ρ) (x.inst ρ) (instH ρ t n) = some (SV.inst ρ v, instH ρ t' n') ∧ K v t' n' = true := by
  obtain ⟨sz, h1, h⟩ := bnd_true (r := cpI T dt) h
  obtain ⟨dl, h2, h⟩ := bnd_true (r := lenD d) h
  obtain ⟨q, y, h3, h⟩ := trimK_true ρ h
  obtain ⟨m, l, h4, hh⟩ := srcK_true ρ (n := n) h
  unfold cpI at h1
  split at h1
  · rename_i e hu
    split at h1
    · rename_i s hs
      cases h1
      rcases isNil_true hh with ⟨rfl, hk⟩ | ⟨hl, hk⟩
      · refine ⟨_, t, n, ?_, hk⟩
        cases d <;> simp only [lenD] at h2 <;> cases h2 <;> simp only [acopy, hu, SV.inst, hs, h3, h4, List.map_nil] <;> rfl
      · split at hk
        · rename_i b off dl' cp _ _ _ _ _ _
          cases h2
          obtain ⟨c, e1, r, g1, h⟩ := obK_true hk
          cases r
          rotate_left
          · cases h
          obtain ⟨g2, h⟩ := onesK_true ρ h
          obtain ⟨c', k1, k2, h⟩ := wrK_true h
          obtain ⟨t', ht, h⟩ := hpK_true h
          refine ⟨_, t', n, ?_, h⟩
          have := wr_put ρ (n := n) g1 ht g2 k1 k2
          cases l with
          | nil => exact absurd rfl hl
          | cons a l => simp only [acopy, hu, SV.inst, hs, h3, h4, List.map_cons] at this ⊢; rw [this]; rfl
        · cases hk
    · cases h1
  · cases h1
def mmL (mx : Bool) (u v : SV) (K : SV → Bool) : Bool := match litV u, litV v with
  | some (.int k x), some (.int _ y) => bnd (cv0 (.int k (bif mx then (if y > x then y else x) else (if y < x then y else x)))) fun s => fSV s K
  | _, _ => false
theorem mmL_true (ρ : Nat → Nat) {mx : Bool} {u v : SV} {K : SV → Bool} (h : mmL mx u v K = true) :
    ∃ k x k' y s, u.inst ρ = .int k x ∧ v.inst ρ = .int k' y ∧ (.int k (bif mx then (if y > x then y else x) else (if y < x then y else x)) : Value) = SV.inst ρ s ∧ K s = true := by
  unfold mmL at h
  split at h
  · rename_i k x k' y h1 h2
    obtain ⟨s, h3, h⟩ := bnd_true (r := cv0 (.int k (bif mx then (if y > x then y else x) else (if y < x then y else x)))) h
    rw [fSV_eq] at h
    exact ⟨k, x, k', y, s, (litV_spec ρ h1).1, (litV_spec ρ h2).1, (cv0_spec ρ h3).1.symm, h⟩
  · cases h
def mmK (G : List Asm) (mx : Bool) (u v : SV) (K : SV → Bool) : Bool := match u with
  | .n k a => (match v with
    | .n _ b => ifK (bif mx then Nat.blt a b else Nat.blt b a) (K (.n k b)) (K (.n k a))
    | .w _ y => bnd (bif mx then ltW G (litW a) y else ltW G y (litW a)) fun q => ifK q (fSV (mkI k y) K) (K (.n k a))
    | v => mmL mx (.n k a) v K)
  | .w k x => (match v with
    | .n _ b => bnd (bif mx then ltW G x (litW b) else ltW G (litW b) x) fun q => ifK q (K (.n k b)) (K (.w k x))
    | .w _ y => bnd (bif mx then ltW G x y else ltW G y x) fun q => ifK q (fSV (mkI k y) K) (K (.w k x))
    | _ => false)
  | u => mmL mx u v K
theorem mmK_true {ρ : Nat → Nat} {G : List Asm} (hG : ∀ a ∈ G, a.ok ρ) {mx : Bool} {u v : SV} {K : SV → Bool} (h : mmK G mx u v K = true) :
    ∃ k x k' y s, u.inst ρ = .int k x ∧ v.inst ρ = .int k' y ∧ (.int k (bif mx then (if y > x then y else x) else (if y < x then y else x)) : Value) = SV.inst ρ s ∧ K s = true := by
  have key : ∀ (k : IntKind) (x y : Nat) (q : Bool), (bif mx then decide (x < y) else decide (y < x)) = q → (.int k (bif mx then (if Int.ofNat y > Int.ofNat x then Int.ofNat y else Int.ofNat x) else (if Int.ofNat y < Int.ofNat x then Int.ofNat y else Int.ofNat x)) : Value) = .int k (Int.ofNat (bif q then y else x)) := fun k x y q h => by
    congr 1
    cases mx <;> simp only [cond_false, cond_true] at h ⊢
    · cases q
      · have : ¬ y < x := of_decide_eq_false h
        rw [if_neg (by simpa using this)]; rfl
      · have : y < x := of_decide_eq_true h
        rw [if_pos (by simpa using this)]; rfl
    · cases q
      · have : ¬ x < y := of_decide_eq_false h
        rw [if_neg (by simpa using this)]; rfl
      · have : x < y := of_decide_eq_true h
        rw [if_pos (by simpa using this)]; rfl
  have dec : ∀ {x y : W} {q : Bool}, (bif mx then ltW G x y else ltW G y x) = some q → (bif mx then decide (evW ρ x < evW ρ y) else decide (evW ρ y < evW ρ x)) = q := fun {x y q} h => by
    cases mx
    · exact ltW_spec hG h
    · exact ltW_spec hG h
  unfold mmK at h
  split at h
  · rename_i k a
    split at h
    · rename_i k' b
      refine ⟨k, _, k', _, .n k (bif (bif mx then Nat.blt a b else Nat.blt b a) then b else a), rfl, rfl, ?_, ?_⟩
      · refine key k a b _ ?_
        cases mx <;> simp only [cond_false, cond_true]
        · have := nblt_dec b a
          simpa using this
        · have := nblt_dec a b
          simpa using this
      · rcases ifK_true h with ⟨h1, h⟩ | ⟨h1, h⟩ <;> (rw [h1]; exact h)
    · rename_i k' y
      obtain ⟨q, h1, h⟩ := bnd_true (r := bif mx then ltW G (litW a) y else ltW G y (litW a)) h
      have h2 := dec h1
      rw [litW_ev] at h2
      rcases ifK_true h with ⟨rfl, h'⟩ | ⟨rfl, h'⟩
      · rw [fSV_eq] at h'
        exact ⟨k, _, k', _, _, rfl, rfl, by rw [key k a _ _ h2, mkI_inst]; rfl, h'⟩
      · exact ⟨k, _, k', _, _, rfl, rfl, by rw [key k a _ _ h2]; rfl, h'⟩
    · exact mmL_true ρ h
  · rename_i k x
    split at h
    · rename_i k' b
      obtain ⟨q, h1, h⟩ := bnd_true (r := bif mx then ltW G x (litW b) else ltW G (litW b) x) h
      have h2 := dec h1
      rw [litW_ev] at h2
      rcases ifK_true h with ⟨rfl, h'⟩ | ⟨rfl, h'⟩
      · exact ⟨k, _, k', _, _, rfl, rfl, by rw [key k _ b _ h2]; rfl, h'⟩
      · exact ⟨k, _, k', _, _, rfl, rfl, by rw [key k _ b _ h2]; rfl, h'⟩
    · rename_i k' y
      obtain ⟨q, h1, h⟩ := bnd_true (r := bif mx then ltW G x y else ltW G y x) h
      have h2 := dec h1
      rcases ifK_true h with ⟨rfl, h'⟩ | ⟨rfl, h'⟩
      · rw [fSV_eq] at h'
        exact ⟨k, _, k', _, _, rfl, rfl, by rw [key k _ _ _ h2, mkI_inst]; rfl, h'⟩
      · exact ⟨k, _, k', _, _, rfl, rfl, by rw [key k _ _ _ h2]; rfl, h'⟩
    · cases h
  · exact mmL_true ρ h
def slE (T : Tab) (t : TypeId) : Option TypeId := match T.under t with
  | some (.slice e) => some e
  | _ => none
theorem slE_spec {T : Tab} {t e : TypeId} (h : slE T t = some e) : T.under t = some (.slice e) := by
  unfold slE at h
  split at h
  · cases h; assumption
  · cases h
def clrK (E : Env) (ty : TypeId) (v : SV) (t : HT) (n : Nat) (K : KV) : Bool := bnd (slE E.T ty) fun e => match v with
  | .ns => K (.tu []) t n
  | .sl b off m _ => ifK (m.beq 0) (K (.tu []) t n) (bnd (zeroP E e) fun zs => obK b t fun c e r => Bool.rec (motive := fun _ => Bool) (onesK (baseL (manyP zs m)) (wrK c off (baseL (manyP zs m)) fun c => hpK b (some ⟨c, e, false⟩) t fun t => K (.tu []) t n)) false r)
  | _ => false
theorem clrK_true {ρ : Nat → Nat} {E : Env} (hE : EnvOk ρ E) {ty : TypeId} {v : SV} {t : HT} {n : Nat} {K : KV} (h : clrK E ty v t n K = true) :
    ∃ a m c t' n', v.inst ρ = .slice a m c ∧ (∃ e, E.T.under ty = some (.slice e)) ∧ aclear E.T ty a m (instH ρ t n) = some (instH ρ t' n') ∧ K (.tu []) t' n' = true := by
  obtain ⟨e, h1, h⟩ := bnd_true (r := slE E.T ty) h
  have hu := slE_spec h1
  split at h
  · exact ⟨none, 0, 0, t, n, rfl, ⟨e, hu⟩, rfl, h⟩
  · rename_i b off m cp _
    refine ⟨some ⟨b, off, none⟩, m, cp, ?_⟩
    rcases ifK_true h with ⟨h2, h⟩ | ⟨h2, h⟩
    · obtain rfl := Nat.eq_of_beq_eq_true h2
      exact ⟨t, n, rfl, ⟨e, hu⟩, rfl, h⟩
    · obtain ⟨zs, h3, h⟩ := bnd_true (r := zeroP E e) h
      obtain ⟨z, z1, z2, z3⟩ := zeroP_spec hE h3
      obtain ⟨c, e1, r, g1, h⟩ := obK_true h
      cases r
      rotate_left
      · cases h
      obtain ⟨g2, h⟩ := onesK_true ρ h
      obtain ⟨c', k1, k2, h⟩ := wrK_true h
      obtain ⟨t', ht, h⟩ := hpK_true h
      refine ⟨t', n, rfl, ⟨e, hu⟩, ?_, h⟩
      have := wr_put ρ (n := n) g1 ht g2 k1 k2
      have hz : zerosOf z.cells.toList m = (baseL (manyP zs m)).map (SV.inst ρ) := by
        rw [baseL_many, zerosOf_flat, z3, List.map_flatten, List.map_replicate]
      cases m with
      | zero => cases h2
      | succ m => simp only [aclear, hu, z1, z2, cond_true, hz, this]
  · cases h
/-! A call's own value -/
def bltK (E : Env) (b : Builtin) (ts : List TypeId) (vs : List SV) (t : HT) (n : Nat) (K : KV) : Bool := match b with
  | .append => (match ts, vs with
    | [st, xt], [s, x] => appK E.T st xt s x t n K
    | _, _ => false)
  | .copy => (match ts, vs with
    | [dt, _], [d, x] => cpyK E.T dt d x t n K
    | _, _ => false)
  | .len => (match ts, vs with
    | [ty], [.sl _ _ m _] => ifK (isSl (E.T.under ty)) (K (.n .i64 m) t n) false
    | [ty], [.ns] => ifK (isSl (E.T.under ty)) (K (.n .i64 0) t n) false
    | _, _ => false)
  | .clear => (match ts, vs with
    | [ty], [v] => clrK E ty v t n K
    | _, _ => false)
  | .max => (match vs with
    | [u, v] => mmK E.G true u v fun s => K s t n
    | _ => false)
  | .min => (match vs with
    | [u, v] => mmK E.G false u v fun s => K s t n
    | _ => false)
  | _ => false
def hBlt (c : Call) : Hd := fun E tm o t n K => match c.callee with
  | .builtin b => evsK c.args.toList tm fun vs => bltK E b c.argTypes.toList vs t n K
  | _ => false
theorem bltK_ok {ρ : Nat → Nat} {E : Env} (hE : EnvOk ρ E) {c : Call} {tr : Tr Value} {o : Oper} {t : HT} {n : Nat} {K : KV} {b : Builtin} {vs : List SV} (ho : o.op = .call c) (hb : c.callee = .builtin b) (h1 : aevals tr c.args.toList = some (instL ρ vs)) (h : bltK E b c.argTypes.toList vs t n K = true) : OpV ρ E tr o t n K := by
    have start : ∀ r, acall E.P E.T tr o c (instH ρ t n) = r → aop E.P E.T tr o (instH ρ t n) = r := fun r hr => by
      unfold aop; simp only [ho]; exact hr
    unfold bltK at h
    split at h
    · split at h
      · rename_i st xt s x ht
        obtain ⟨v, t', n', h2, h⟩ := appK_true ρ h
        exact opV v (start _ (by unfold acall; simp only [hb, ht, h1, instL, h2, val2])) h
      · cases h
    · split at h
      · rename_i dt _ d x ht
        obtain ⟨v, t', n', h2, h⟩ := cpyK_true ρ h
        exact opV v (start _ (by unfold acall; simp only [hb, ht, h1, instL, h2, val2])) h
      · cases h
    · split at h
      · rename_i ty b' off m cp ht
        obtain ⟨h2, h⟩ := ifF_true h
        obtain ⟨e, he⟩ := isSl_spec h2
        exact opV _ (start _ (by unfold acall; simp only [hb, ht, h1, instL, SV.inst, he]; rfl)) h
      · rename_i ty ht
        obtain ⟨h2, h⟩ := ifF_true h
        obtain ⟨e, he⟩ := isSl_spec h2
        exact opV _ (start _ (by unfold acall; simp only [hb, ht, h1, instL, SV.inst, he]; rfl)) h
      · cases h
    · split at h
      · rename_i ty v ht
        obtain ⟨a, m, cp, t', n', h2, ⟨e, he⟩, h3, h⟩ := clrK_true hE h
        exact opV _ (start _ (by unfold acall; simp only [hb, ht, h1, instL, h2, he, h3]; rfl)) h
      · cases h
    · split at h
      · rename_i u v
        obtain ⟨k, x, k', y, s, e1, e2, e3, h⟩ := mmK_true hE.G h
        refine opV s (start _ (by unfold acall; simp only [hb, h1, instL, e1, e2, ← e3]; rfl)) h
      · cases h
    · split at h
      · rename_i u v
        obtain ⟨k, x, k', y, s, e1, e2, e3, h⟩ := mmK_true hE.G h
        refine opV s (start _ (by unfold acall; simp only [hb, h1, instL, e1, e2, ← e3]; rfl)) h
      · cases h
    · cases h
theorem hBlt_ok {ρ : Nat → Nat} {E : Env} (hE : EnvOk ρ E) (c : Call) : HdOk ρ E (.call c) (hBlt c) := by
  intro tm tr hT o t n K ho h
  unfold hBlt at h
  split at h
  · rename_i b hb
    obtain ⟨vs, h1, h⟩ := evsK_true hT h
    exact bltK_ok hE ho hb h1 h
  · cases h
end
end Go.Ev
/- Operations on values that are not known whole: maps. -/
namespace Go.Ev
open Go
set_option linter.unusedVariables false
set_option linter.unusedSimpArgs false
set_option linter.constructorNameAsVariable false
noncomputable section
abbrev SRow := SV × SV × Nat
def instR (ρ : Nat → Nat) (x : SRow) : Row := (x.1.inst ρ, x.2.1.inst ρ, x.2.2)
def smrows : List SV → Option (List SRow)
  | [] => some []
  | k :: v :: .n .i64 n :: r => match smrows r with | some l => some ((k, v, n) :: l) | none => none
  | _ => none
def smparse : List SV → Option (Nat × List SRow)
  | .n .i64 c :: r => match smrows r with | some l => some (c, l) | none => none
  | _ => none
def smlay (c : Nat) (l : List SRow) : List SV := .n .i64 c :: l.flatMap fun x => [x.1, x.2.1, .n .i64 x.2.2]
theorem smrows_inst (ρ : Nat → Nat) : ∀ (n : Nat) (l : List SV) (r : List SRow), l.length ≤ n → smrows l = some r → mrows (l.map (SV.inst ρ)) = some (r.map (instR ρ)) := by
  intro n
  induction n with
  | zero =>
    intro l r hl h
    cases l with
    | nil => cases h; rfl
    | cons a l => simp at hl
  | succ n ih =>
    intro l r hl h
    unfold smrows at h
    split at h
    · cases h; rfl
    · rename_i k v q r'
      split at h
      · rename_i l' hl'
        cases h
        simp only [List.length_cons] at hl
        have := ih r' l' (by omega) hl'
        simp only [List.map_cons, SV.inst]
        show mrows (k.inst ρ :: v.inst ρ :: .int .i64 (.ofNat q) :: r'.map (SV.inst ρ)) = _
        simp only [mrows, this]
        rfl
      · cases h
    · cases h
theorem smparse_inst (ρ : Nat → Nat) {l : List SV} {p : Nat × List SRow} (h : smparse l = some p) : mparse (l.map (SV.inst ρ)) = some (p.1, p.2.map (instR ρ)) := by
  unfold smparse at h
  split at h
  · rename_i c r
    split at h
    · rename_i l' hl'
      cases h
      have := smrows_inst ρ _ r l' (Nat.le_refl _) hl'
      simp only [List.map_cons, SV.inst, mparse, this]
    · cases h
  · cases h
theorem smlay_inst (ρ : Nat → Nat) (c : Nat) (l : List SRow) : (smlay c l).map (SV.inst ρ) = mlay c (l.map (instR ρ)) := by
  unfold smlay mlay mcells
  rw [List.map_cons]
  congr 1
  induction l with
  | nil => rfl
  | cons x l ih =>
    rw [List.flatMap_cons, List.map_append, ih]
    rfl
/-! Keys -/
def skeyEq (P : Program) (G : List Asm) (kt : TypeId) (u v : SV) : Option Bool := match P.underlying kt with
  | some (.int q) => (match wOf u, wOf v with
    | some (k, x), some (j, y) => bif k == q && j == q then eqW G x y else none
    | _, _ => none)
  | some (.struct fs) => (match u, v with
    | .ag a, .ag b => if P.stoodInHeld kt then none else saeqF P G a b fs.toList
    | _, _ => none)
  | _ => none
theorem skeyEq_inst {ρ : Nat → Nat} {P : Program} {G : List Asm} (hG : ∀ a ∈ G, a.ok ρ) {kt : TypeId} {u v : SV} {b : Bool} (h : skeyEq P G kt u v = some b) : keyEq P kt (u.inst ρ) (v.inst ρ) = some b := by
  unfold skeyEq at h
  split at h
  · rename_i q hd
    split at h
    · rename_i k x j y hx hy
      rw [wOf_inst ρ hx, wOf_inst ρ hy]
      cases hk : k == q && j == q <;> rw [hk] at h
      · cases h
      · have := eqW_spec hG h
        simp only [keyEq, hd, hk, cond_true]
        congr 1
        rw [← this, nbeq_dec]
        cases hc : Nat.beq (evW ρ x) (evW ρ y)
        · exact (decide_eq_false (Nat.ne_of_beq_eq_false hc)).symm
        · exact (decide_eq_true (Nat.eq_of_beq_eq_true hc)).symm
    · cases h
  · rename_i fs hd
    split at h
    · split at h
      · cases h
      · rename_i a b' hs
        have := saeqF_spec hG h
        simp only [keyEq, hd, SV.inst]
        rw [show P.stoodInHeld kt = false from by simpa using hs]
        exact this
    · cases h
  · cases h
def key0 : SV → Bool
  | .n _ _ | .z _ _ | .w _ _ | .t | .f => true
  | _ => false
def keyS : SV → Bool
  | .ag l => l.all key0
  | v => key0 v
def svSame : SV → SV → Bool
  | .ag l, .ag l' => svEqsM l l'
  | u, v => svEqM u v
where
  svEqM : SV → SV → Bool
  | .n k a, .n k' b => k == k' && a.beq b
  | .z k a, .z k' b => k == k' && a.beq b
  | .w k x, .w k' y => k == k' && wEq x y
  | .t, .t => true
  | .f, .f => true
  | _, _ => false
  svEqsM : List SV → List SV → Bool
  | [], [] => true
  | u :: a, v :: b => svEqM u v && svEqsM a b
  | _, _ => false
theorem svEqM_spec {u v : SV} (h : svSame.svEqM u v = true) : u = v ∧ key0 u = true := by
  unfold svSame.svEqM at h
  split at h
  all_goals first
    | (cases h; done)
    | exact ⟨rfl, rfl⟩
    | (simp only [Bool.and_eq_true, beq_iff_eq, Nat.beq_eq] at h
       obtain ⟨rfl, h⟩ := h
       first
        | (obtain rfl := wEq_sound _ _ h; exact ⟨rfl, rfl⟩)
        | (subst h; exact ⟨rfl, rfl⟩))
theorem svEqsM_spec : ∀ {a b : List SV}, svSame.svEqsM a b = true → a = b ∧ a.all key0 = true := by
  intro a
  induction a with
  | nil => intro b h; cases b with
    | nil => exact ⟨rfl, rfl⟩
    | cons v b => cases h
  | cons u a ih =>
    intro b h
    cases b with
    | nil => cases h
    | cons v b =>
      simp only [svSame.svEqsM, Bool.and_eq_true] at h
      obtain ⟨rfl, h1⟩ := svEqM_spec h.1
      obtain ⟨rfl, h2⟩ := ih h.2
      exact ⟨rfl, by rw [List.all_cons, h1, h2]; rfl⟩
theorem svSame_spec {u v : SV} (h : svSame u v = true) : u = v ∧ keyS u = true := by
  unfold svSame at h
  split at h
  · obtain ⟨rfl, h1⟩ := svEqsM_spec h; exact ⟨rfl, h1⟩
  · obtain ⟨rfl, h1⟩ := svEqM_spec h
    refine ⟨rfl, ?_⟩
    cases u <;> first | exact h1 | (cases h1; done)
theorem same0 (ρ : Nat → Nat) (n : Nat) {v : SV} (h : key0 v = true) : Instr.sameBits n (v.inst ρ) (v.inst ρ) = true := by
  cases v <;> simp only [key0, Bool.false_eq_true] at h <;> cases n <;> simp [SV.inst, Instr.sameBits]
theorem sameS (ρ : Nat → Nat) {v : SV} (h : keyS v = true) : Instr.sameBits 10000 (v.inst ρ) (v.inst ρ) = true := by
  unfold keyS at h
  split at h
  · rename_i l
    show Instr.sameBits (9999 + 1) (.agg ⟨instL ρ l⟩) (.agg ⟨instL ρ l⟩) = true
    simp only [Instr.sameBits, beq_self_eq_true, Bool.true_and]
    induction l with
    | nil => rfl
    | cons v l ih =>
      rw [List.all_cons, Bool.and_eq_true] at h
      simp only [instL, List.zip_cons_cons, List.all_cons, same0 ρ 9999 h.1, Bool.true_and]
      exact ih h.2
  · exact same0 ρ _ h
def instF (ρ : Nat → Nat) (f : Nat × SV × Nat) : Nat × Value × Nat := (f.1, f.2.1.inst ρ, f.2.2)
def smfind (P : Program) (G : List Asm) (kt : TypeId) (k : SV) : List SRow → Nat → Option (Option (Nat × SV × Nat))
  | [], _ => some none
  | (y, v, n) :: r, i => match skeyEq P G kt k y with
    | some true => bif svSame y k then some (some (i, v, n)) else none
    | some false => smfind P G kt k r (i + 1)
    | none => none
theorem smfind_inst {ρ : Nat → Nat} {P : Program} {G : List Asm} (hG : ∀ a ∈ G, a.ok ρ) {kt : TypeId} {k : SV} : ∀ {l : List SRow} {i : Nat} {f : Option (Nat × SV × Nat)}, smfind P G kt k l i = some f → mfind P kt (k.inst ρ) (l.map (instR ρ)) i = some (f.map (instF ρ)) := by
  intro l
  induction l with
  | nil => intro i f h; cases h; rfl
  | cons x l ih =>
    intro i f h
    obtain ⟨y, v, n⟩ := x
    simp only [smfind] at h
    simp only [List.map_cons, instR, mfind]
    split at h
    · rename_i hk
      rw [skeyEq_inst hG hk]
      cases hs : svSame y k <;> rw [hs] at h
      · cases h
      · cases h
        obtain ⟨rfl, h1⟩ := svSame_spec hs
        simp only [sameS ρ h1, cond_true]
        rfl
    · rename_i hk
      rw [skeyEq_inst hG hk]
      exact ih h
    · cases h
def closedS : SV → Bool
  | .ag l => l.all plainS
  | v => plainS v
theorem closedS_spec (ρ : Nat → Nat) {v : SV} (h : closedS v = true) : closed (v.inst ρ) = true := by
  unfold closedS at h
  split at h
  · exact plainL_spec ρ h
  · exact plain_closed (plainS_spec ρ h)
def smkey (P : Program) (G : List Asm) (kt : TypeId) (i : SV) : Bool := closedS i && (match skeyEq P G kt i i with | some b => b | none => false)
theorem smkey_inst {ρ : Nat → Nat} {P : Program} {G : List Asm} (hG : ∀ a ∈ G, a.ok ρ) {kt : TypeId} {i : SV} (h : smkey P G kt i = true) : mkey P kt (i.inst ρ) = true := by
  simp only [smkey, Bool.and_eq_true] at h
  obtain ⟨h1, h2⟩ := h
  split at h2
  · rename_i b hb
    subst h2
    simp only [mkey, closedS_spec ρ h1, skeyEq_inst hG hb, Bool.and_self]
  · cases h2
/-! What lies in a map -/
def mapI (u : SV) (ht : HT) (K : Nat → TypeId → Nat → List SRow → Bool) : Bool := match u with
  | .m b => obK b ht fun c e r => ifK r false (lsK c fun l => bnd (smparse l) fun p => K b e p.1 p.2)
  | _ => false
theorem mapI_true (ρ : Nat → Nat) {u : SV} {t : HT} {n : Nat} {K : Nat → TypeId → Nat → List SRow → Bool} (h : mapI u t K = true) :
    ∃ b e c rows, u = .m b ∧ (∃ cells, mapAt (u.inst ρ) (instH ρ t n) = some (b, ⟨cells, e, false⟩, c, rows.map (instR ρ))) ∧ K b e c rows = true := by
  unfold mapI at h
  split at h
  · rename_i b
    obtain ⟨c, e, r, h1, h⟩ := obK_true h
    cases r
    rotate_left
    · cases h
    rcases ifK_true (b := false) h with ⟨hr, _⟩ | ⟨_, h⟩
    · cases hr
    obtain ⟨l, rfl, h'⟩ := lsK_true h
    obtain ⟨p, h2, h3⟩ := bnd_true (r := smparse l) h'
    refine ⟨b, e, p.1, p.2, rfl, ⟨l.map (SV.inst ρ), ?_⟩, h3⟩
    simp only [mapAt, SV.inst, h1 ρ n, Cs.toL, smparse_inst ρ h2]
  · cases h
def fLs (l : List SV) : (List SV → Bool) → Bool := List.rec (motive := fun _ => (List SV → Bool) → Bool) (fun K => K []) (fun v _ ih K => fSV v fun v => ih fun r => K (v :: r)) l
theorem fLs_eq (l : List SV) : ∀ K, fLs l K = K l := by
  induction l with
  | nil => intro K; rfl
  | cons v l ih =>
    intro K
    show fSV v (fun v => fLs l fun r => K (v :: r)) = _
    rw [fSV_eq, ih]
def layK (b : Nat) (e : TypeId) (c : Nat) (rows : List SRow) (t : HT) (K : HT → Bool) : Bool := fLs (smlay c rows) fun l => hpK b (some ⟨.ls l, e, false⟩) t K
theorem layK_true (ρ : Nat → Nat) {b : Nat} {e : TypeId} {c : Nat} {rows : List SRow} {t : HT} {n : Nat} {K : HT → Bool} (h : layK b e c rows t K = true) : ∃ t', (instH ρ t n).put b ⟨mlay c (rows.map (instR ρ)), e, false⟩ = instH ρ t' n ∧ K t' = true := by
  unfold layK at h
  rw [fLs_eq] at h
  obtain ⟨t', ht, h⟩ := hpK_true h
  refine ⟨t', ?_, h⟩
  rw [ht]
  simp only [SOb.inst, Cs.toL, smlay_inst]
def zSV (T : Tab) (e : TypeId) : Option SV := match T.zero e with
  | some z => cv z
  | none => none
theorem zSV_spec (ρ : Nat → Nat) {T : Tab} {e : TypeId} {s : SV} (h : zSV T e = some s) : ∃ z, T.zero e = some z ∧ closed z = true ∧ z = s.inst ρ := by
  unfold zSV at h
  split at h
  · rename_i z hz
    obtain ⟨a, b⟩ := cv_spec ρ h
    exact ⟨z, hz, b, a.symm⟩
  · cases h
def hMakeMap (ty : TypeId) : Hd := fun E tm o t n K => pushK ⟨.ls [.n .i64 0], ty, false⟩ (.m n) t n K
theorem hMakeMap_ok (ρ : Nat → Nat) (E : Env) (ty : TypeId) : HdOk ρ E (.makeMap ty none) (hMakeMap ty) := by
  intro tm tr hT o t n K ho h
  have h : pushK ⟨.ls [.n .i64 0], ty, false⟩ (.m n) t n K = true := h
  obtain ⟨t', ht, h⟩ := pushK_true h
  refine opV (.m n) (t' := t') (n' := n + 1) ?_ h
  unfold aop
  simp only [ho, amap, ht, SOb.inst]
  rfl
def hLookup (ty : TypeId) (x i : Operand) (ok : Bool) : Hd := fun E tm o t n K => evK x tm fun u => evK i tm fun v => bnd (kts E.T ty) fun q => mapI u t fun b e c rows => ifK (smkey E.P E.G q.1 v) (bnd (smfind E.P E.G q.1 v rows 0) fun f => bnd (zSV E.T q.2) fun z => match f with
  | some f => K (bif ok then .tu [f.2.1, .t] else f.2.1) t n
  | none => K (bif ok then .tu [z, .f] else z) t n) false
theorem hLookup_ok {ρ : Nat → Nat} {E : Env} (hE : EnvOk ρ E) (ty : TypeId) (x i : Operand) (ok : Bool) : HdOk ρ E (.lookup ty x i ok) (hLookup ty x i ok) := by
  intro tm tr hT o t n K ho h
  obtain ⟨u, h1, h⟩ := evK_true hT h
  obtain ⟨v, h2, h⟩ := evK_true hT h
  obtain ⟨⟨kt, et⟩, h3, h⟩ := bnd_true (r := kts E.T ty) h
  obtain ⟨b, e, c, rows, hu, ⟨cells, h4⟩, h⟩ := mapI_true ρ (n := n) h
  obtain ⟨h5, h⟩ := ifF_true h
  obtain ⟨f, h6, h⟩ := bnd_true (r := smfind E.P E.G kt v rows 0) h
  obtain ⟨s, h7, h⟩ := bnd_true (r := zSV E.T et) h
  obtain ⟨z, z1, z2, rfl⟩ := zSV_spec ρ h7
  have h5 := smkey_inst hE.G h5
  have h6 := smfind_inst hE.G h6
  have fin : ∀ r, alookup E.P E.T ty ok (u.inst ρ) (v.inst ρ) (instH ρ t n) = some r → aop E.P E.T tr o (instH ρ t n) = some (.val r, instH ρ t n) := fun r hr => by
    unfold aop
    simp only [ho, amap, h1, h2, hr, val]
  cases f with
  | some f =>
    refine opV _ (fin _ ?_) h
    simp only [alookup, h3, h4, h5, h6, cond_true, Option.map_some, instF, z1]
    cases ok <;> rfl
  | none =>
    refine opV _ (fin _ ?_) h
    simp only [alookup, h3, h4, h5, h6, cond_true, Option.map_none, z1, z2]
    cases ok <;> rfl
def hMapUpdate (ty : TypeId) (x i y : Operand) : Hd := fun E tm o t n K => evK x tm fun u => evK i tm fun v => evK y tm fun w => bnd (kts E.T ty) fun q => mapI u t fun b e c rows => ifK (smkey E.P E.G q.1 v) (bnd (smfind E.P E.G q.1 v rows 0) fun f => match f with
  | some f => layK b e c (rows.set f.1 (v, w, f.2.2)) t fun t => K .u t n
  | none => layK b e (c + 1) (rows ++ [(v, w, c)]) t fun t => K .u t n) false
theorem hMapUpdate_ok {ρ : Nat → Nat} {E : Env} (hE : EnvOk ρ E) (ty : TypeId) (x i y : Operand) : HdOk ρ E (.mapUpdate ty x i y) (hMapUpdate ty x i y) := by
  intro tm tr hT o t n K ho h
  obtain ⟨u, h1, h⟩ := evK_true hT h
  obtain ⟨v, h2, h⟩ := evK_true hT h
  obtain ⟨w, h2', h⟩ := evK_true hT h
  obtain ⟨⟨kt, et⟩, h3, h⟩ := bnd_true (r := kts E.T ty) h
  obtain ⟨b, e, c, rows, hu, ⟨cells, h4⟩, h⟩ := mapI_true ρ (n := n) h
  obtain ⟨h5, h⟩ := ifF_true h
  obtain ⟨f, h6, h⟩ := bnd_true (r := smfind E.P E.G kt v rows 0) h
  have h5 := smkey_inst hE.G h5
  have h6 := smfind_inst hE.G h6
  have fin : ∀ H', aupdate E.P E.T ty (u.inst ρ) (v.inst ρ) (w.inst ρ) (instH ρ t n) = some H' → aop E.P E.T tr o (instH ρ t n) = some (.skip, H') := fun r hr => by
    unfold aop
    simp only [ho, amap, h1, h2, h2', hr, skp]
  cases f with
  | some f =>
    obtain ⟨t', h7, h⟩ := layK_true ρ (n := n) h
    refine ⟨.u, t', n, .inr ⟨rfl, fin _ ?_⟩, h⟩
    simp only [aupdate, h3, h4, h5, h6, Bool.not_true, Bool.or_self, cond_false, Option.map_some, instF]
    rw [← h7, List.map_set]
    rfl
  | none =>
    obtain ⟨t', h7, h⟩ := layK_true ρ (n := n) h
    refine ⟨.u, t', n, .inr ⟨rfl, fin _ ?_⟩, h⟩
    simp only [aupdate, h3, h4, h5, h6, Bool.not_true, Bool.or_self, cond_false, Option.map_none]
    rw [← h7, List.map_append]
    rfl
def hMapEntry (ty : TypeId) (x i : Operand) : Hd := fun E tm o t n K => evK x tm fun u => evK i tm fun v => bnd (kts E.T ty) fun q => mapI u t fun b e c rows => ifK (smkey E.P E.G q.1 v) (bnd (smfind E.P E.G q.1 v rows 0) fun f => bnd (zSV E.T q.2) fun z => match f with
  | some f => layK b e c (rows.set f.1 (v, f.2.1, f.2.2)) t fun t => fN f.2.2 fun m => K (.tu [f.2.1, .n .i64 m]) t n
  | none => layK b e (c + 1) (rows ++ [(v, z, c)]) t fun t => fN c fun m => K (.tu [z, .n .i64 m]) t n) false
theorem hMapEntry_ok {ρ : Nat → Nat} {E : Env} (hE : EnvOk ρ E) (ty : TypeId) (x i : Operand) : HdOk ρ E (.mapEntry ty x i) (hMapEntry ty x i) := by
  intro tm tr hT o t n K ho h
  obtain ⟨u, h1, h⟩ := evK_true hT h
  obtain ⟨v, h2, h⟩ := evK_true hT h
  obtain ⟨⟨kt, et⟩, h3, h⟩ := bnd_true (r := kts E.T ty) h
  obtain ⟨b, e, c, rows, hu, ⟨cells, h4⟩, h⟩ := mapI_true ρ (n := n) h
  obtain ⟨h5, h⟩ := ifF_true h
  obtain ⟨f, h6, h⟩ := bnd_true (r := smfind E.P E.G kt v rows 0) h
  obtain ⟨s, h7, h⟩ := bnd_true (r := zSV E.T et) h
  obtain ⟨z, z1, z2, rfl⟩ := zSV_spec ρ h7
  have h5 := smkey_inst hE.G h5
  have h6 := smfind_inst hE.G h6
  have fin : ∀ r H', aentry E.P E.T ty (u.inst ρ) (v.inst ρ) (instH ρ t n) = some (r, H') → aop E.P E.T tr o (instH ρ t n) = some (.val r, H') := fun r H' hr => by
    unfold aop
    simp only [ho, amap, h1, h2, hr, val2]
  cases f with
  | some f =>
    obtain ⟨t', h7, h⟩ := layK_true ρ (n := n) h
    rw [fN_eq] at h
    refine opV _ (t' := t') (n' := n) (fin _ _ ?_) h
    simp only [aentry, h3, h4, h5, h6, Bool.not_true, Bool.or_self, cond_false, Option.map_some, instF, z1]
    rw [← h7, List.map_set]
    rfl
  | none =>
    obtain ⟨t', h7, h⟩ := layK_true ρ (n := n) h
    rw [fN_eq] at h
    refine opV _ (t' := t') (n' := n) (fin _ _ ?_) h
    simp only [aentry, h3, h4, h5, h6, Bool.not_true, Bool.or_self, cond_false, Option.map_none, z1, z2, cond_true]
    rw [← h7, List.map_append]
    rfl
def sborn (s : Nat) : List SRow → Nat → Option (Nat × SRow)
  | [], _ => none
  | x :: r, i => bif Nat.beq x.2.2 s then some (i, x) else sborn s r (i + 1)
theorem sborn_inst (ρ : Nat → Nat) {s : Nat} : ∀ {l : List SRow} {i : Nat} {p : Nat × SRow}, sborn s l i = some p → mborn s (l.map (instR ρ)) i = some (p.1, instR ρ p.2) := by
  intro l
  induction l with
  | nil => intro i p h; cases h
  | cons x l ih =>
    intro i p h
    simp only [sborn] at h
    have e : (instR ρ x).2.2 = x.2.2 := rfl
    simp only [List.map_cons, mborn, e]
    cases hb : Nat.beq x.2.2 s <;> rw [hb] at h
    · exact ih h
    · cases h; rfl
def hEntryStore (x s y : Operand) : Hd := fun E tm o t n K => evK x tm fun u => evK s tm fun v => evK y tm fun w => natK v fun a => mapI u t fun b e c rows => bnd (sborn a rows 0) fun p => layK b e c (rows.set p.1 (p.2.1, w, p.2.2.2)) t fun t => K .u t n
theorem hEntryStore_ok (ρ : Nat → Nat) (E : Env) (ty : TypeId) (x s y : Operand) : HdOk ρ E (.entryStore ty x s y) (hEntryStore x s y) := by
  intro tm tr hT o t n K ho h
  obtain ⟨u, h1, h⟩ := evK_true hT h
  obtain ⟨v, h2, h⟩ := evK_true hT h
  obtain ⟨w, h3, h⟩ := evK_true hT h
  obtain ⟨k, a, rfl, g⟩ := natK_true h
  obtain ⟨b, e, c, rows, hu, ⟨cells, h4⟩, g⟩ := mapI_true ρ (n := n) g
  obtain ⟨p, h5, g⟩ := bnd_true (r := sborn a rows 0) g
  obtain ⟨t', h7, g⟩ := layK_true ρ (n := n) g
  refine ⟨.u, t', n, .inr ⟨rfl, ?_⟩, g⟩
  have h5 := sborn_inst ρ h5
  have : aestore (u.inst ρ) ((SV.n k a).inst ρ) (w.inst ρ) (instH ρ t n) = some (instH ρ t' n) := by
    simp only [aestore, h4, SV.inst, cond_false, h5]
    rw [← h7, List.map_set]
    rfl
  unfold aop
  simp only [ho, amap, h1, h2, h3, this, skp]
end
end Go.Ev
/- Operations on values that are not known whole: walks over maps, delete, len. -/
namespace Go.Ev
open Go
set_option linter.unusedVariables false
set_option linter.unusedSimpArgs false
set_option linter.constructorNameAsVariable false
noncomputable section
def snats : List SV → Option (List Nat)
  | [] => some []
  | .n .i64 a :: r => match snats r with | some l => some (a :: l) | none => none
  | _ => none
theorem snats_inst (ρ : Nat → Nat) : ∀ {l : List SV} {r : List Nat}, snats l = some r → inats (l.map (SV.inst ρ)) = some r := by
  intro l
  induction l with
  | nil => intro r h; cases h; rfl
  | cons v l ih =>
    intro r h
    unfold snats at h
    split at h
    · rename_i e; cases e
    · rename_i a r' e
      cases e
      split at h
      · rename_i l' hl'
        cases h
        have := ih hl'
        simp only [List.map_cons, SV.inst, inats, this]
      · cases h
    · cases h
def siparse : List SV → Option (Nat × Nat × Nat × List Nat)
  | .m b :: .n .i64 s :: .n .i64 q :: r => match snats r with | some l => some (b, s, q, l) | none => none
  | _ => none
theorem siparse_inst (ρ : Nat → Nat) {l : List SV} {p : Nat × Nat × Nat × List Nat} (h : siparse l = some p) : iparse (l.map (SV.inst ρ)) = some p := by
  unfold siparse at h
  split at h
  · rename_i b s q r
    split at h
    · rename_i l' hl'
      cases h
      have := snats_inst ρ hl'
      simp only [List.map_cons, SV.inst, iparse, this]
    · cases h
  · cases h
def sicells (b since st : Nat) (seen : List Nat) : List SV := .m b :: .n .i64 since :: .n .i64 st :: seen.map fun a => .n .i64 a
theorem sicells_inst (ρ : Nat → Nat) (b since st : Nat) (seen : List Nat) : (sicells b since st seen).map (SV.inst ρ) = icells b since st seen := by
  simp only [sicells, icells, List.map_cons, List.map_map]
  rfl
def hRange (ty : TypeId) (x : Operand) : Hd := fun E tm o t n K => evK x tm fun u => ifK (kts E.T ty).isSome (mapI u t fun b e c rows => fN c fun c => pushK ⟨.ls (sicells b c c []), ty, false⟩ (.it n) t n K) false
theorem hRange_ok (ρ : Nat → Nat) (E : Env) (ty : TypeId) (x : Operand) : HdOk ρ E (.range ty x) (hRange ty x) := by
  intro tm tr hT o t n K ho h
  obtain ⟨u, h1, h⟩ := evK_true hT h
  obtain ⟨h2, h⟩ := ifF_true h
  obtain ⟨q, h2⟩ := Option.isSome_iff_exists.1 h2
  obtain ⟨b, e, c, rows, hu, ⟨cells, h4⟩, h⟩ := mapI_true ρ (n := n) h
  rw [fN_eq] at h
  obtain ⟨t', ht, h⟩ := pushK_true h
  refine opV (.it n) (t' := t') (n' := n + 1) ?_ h
  have : arange E.T ty (u.inst ρ) (instH ρ t n) = some ((SV.it n).inst ρ, instH ρ t' (n + 1)) := by
    simp only [arange, h2, h4, ht, SOb.inst, Cs.toL, sicells_inst]
    rfl
  unfold aop
  simp only [ho, amap, h1, this, val2]
def itI (u : SV) (ht : HT) (K : Nat → TypeId → Nat → Nat → Nat → List Nat → Bool) : Bool := match u with
  | .it i => obK i ht fun c e r => ifK r false (lsK c fun l => bnd (siparse l) fun p => K i e p.1 p.2.1 p.2.2.1 p.2.2.2)
  | _ => false
theorem itI_true (ρ : Nat → Nat) {u : SV} {t : HT} {n : Nat} {K : Nat → TypeId → Nat → Nat → Nat → List Nat → Bool} (h : itI u t K = true) :
    ∃ i e b s q seen, (∃ cells, iterAt (u.inst ρ) (instH ρ t n) = some (i, ⟨cells, e, false⟩, b, s, q, seen)) ∧ K i e b s q seen = true := by
  unfold itI at h
  split at h
  · rename_i i
    obtain ⟨c, e, r, h1, h⟩ := obK_true h
    cases r
    rotate_left
    · cases h
    rcases ifK_true (b := false) h with ⟨hr, _⟩ | ⟨_, h⟩
    · cases hr
    obtain ⟨l, rfl, h'⟩ := lsK_true h
    obtain ⟨⟨b, s, q, seen⟩, h2, h3⟩ := bnd_true (r := siparse l) h'
    refine ⟨i, e, b, s, q, seen, ⟨l.map (SV.inst ρ), ?_⟩, h3⟩
    simp only [iterAt, SV.inst, h1 ρ n, Cs.toL, siparse_inst ρ h2]
  · cases h
def hNext (x : Operand) : Hd := fun E tm o t n K => evK x tm fun u => itI u t fun i e b since q seen => mapI (.m b) t fun _ _ c rows => ifK (Nat.ble since q && rows.all fun e => Nat.blt e.2.2 since)
  (match rows.filter fun e => !seen.contains e.2.2 with
  | [] => K (.tu [.f]) t n
  | [r] => fLs (sicells b since c (seen ++ [r.2.2])) fun l => hpK i (some ⟨.ls l, e, false⟩) t fun t => K (.tu [.t, r.1, r.2.1]) t n
  | _ => false) false
theorem filter_inst (ρ : Nat → Nat) (seen : List Nat) (rows : List SRow) : (rows.map (instR ρ)).filter (fun e => !seen.contains e.2.2) = (rows.filter fun e => !seen.contains e.2.2).map (instR ρ) := by
  rw [List.filter_map]; rfl
theorem all_inst (ρ : Nat → Nat) (s : Nat) (rows : List SRow) : (rows.map (instR ρ)).all (fun e => Nat.blt e.2.2 s) = rows.all fun e => Nat.blt e.2.2 s := by
  rw [List.all_map]; rfl
theorem hNext_ok (ρ : Nat → Nat) (E : Env) (x : Operand) : HdOk ρ E (.next x false) (hNext x) := by
  intro tm tr hT o t n K ho h
  obtain ⟨u, h1, h⟩ := evK_true hT h
  obtain ⟨i, e, b, since, q, seen, ⟨cells, h2⟩, h⟩ := itI_true ρ (n := n) h
  obtain ⟨b', e', c, rows, hb, ⟨cells', h4⟩, h⟩ := mapI_true ρ (n := n) h
  obtain ⟨h5, h⟩ := ifF_true h
  have h4 : mapAt (.map (some b)) (instH ρ t n) = some (b', ⟨cells', e', false⟩, c, rows.map (instR ρ)) := h4
  have fin : ∀ r H', anext (u.inst ρ) (instH ρ t n) = some (r, H') → aop E.P E.T tr o (instH ρ t n) = some (.val r, H') := fun r H' hr => by
    unfold aop
    simp only [ho, amap, h1, hr, val2]
  split at h
  · rename_i hf
    refine opV _ (fin _ _ ?_) h
    simp only [anext, h2, h4, all_inst, h5, cond_true, filter_inst, hf, List.map_nil]
    rfl
  · rename_i r hf
    rw [fLs_eq] at h
    obtain ⟨t', ht, h⟩ := hpK_true h
    refine opV _ (t' := t') (n' := n) (fin _ _ ?_) h
    simp only [anext, h2, h4, all_inst, h5, cond_true, filter_inst, hf, List.map_cons, List.map_nil, ht, SOb.inst, Cs.toL, sicells_inst]
    rfl
  · cases h
def hEntry (x : Operand) : Hd := fun E tm o t n K => evK x tm fun u => itI u t fun i e b since q seen => mapI (.m b) t fun _ _ c rows => bnd seen.getLast? fun s => ifK (Nat.beq c q) (bnd (sborn s rows 0) fun p => K (.tu [p.2.1, p.2.2.1]) t n) false
theorem hEntry_ok (ρ : Nat → Nat) (E : Env) (x : Operand) : HdOk ρ E (.entry x) (hEntry x) := by
  intro tm tr hT o t n K ho h
  obtain ⟨u, h1, h⟩ := evK_true hT h
  obtain ⟨i, e, b, since, q, seen, ⟨cells, h2⟩, h⟩ := itI_true ρ (n := n) h
  obtain ⟨b', e', c, rows, hb, ⟨cells', h4⟩, h⟩ := mapI_true ρ (n := n) h
  obtain ⟨s, h5, h⟩ := bnd_true (r := seen.getLast?) h
  obtain ⟨h6, h⟩ := ifF_true h
  obtain ⟨p, h7, h⟩ := bnd_true (r := sborn s rows 0) h
  have h4 : mapAt (.map (some b)) (instH ρ t n) = some (b', ⟨cells', e', false⟩, c, rows.map (instR ρ)) := h4
  have h7 := sborn_inst ρ h7
  refine opV (.tu [p.2.1, p.2.2.1]) ?_ h
  have : ainow (u.inst ρ) (instH ρ t n) = some ((SV.tu [p.2.1, p.2.2.1]).inst ρ) := by
    simp only [ainow, h2, h4, h5, h6, cond_true, h7]
    rfl
  unfold aop
  simp only [ho, amap, h1, this, val]
def hDelete (c : Call) : Hd := fun E tm o t n K => evsK c.args.toList tm fun vs => match c.argTypes.toList, vs with
  | [mt, _], [x, v] => bnd (kts E.T mt) fun q => mapI x t fun b e c rows => ifK (smkey E.P E.G q.1 v) (bnd (smfind E.P E.G q.1 v rows 0) fun f => match f with
    | some f => layK b e c (rows.eraseIdx f.1) t fun t => K (.tu []) t n
    | none => layK b e c rows t fun t => K (.tu []) t n) false
  | _, _ => false
def lenJ (E : Env) (ts : List TypeId) (vs : List SV) (t : HT) (n : Nat) (K : KV) : Bool := match ts, vs with
  | [ty], [.m b] => ifK (kts E.T ty).isSome (mapI (.m b) t fun _ _ _ rows => fN rows.length fun m => K (.n .i64 m) t n) false
  | ts, vs => bltK E .len ts vs t n K
def hLen (c : Call) : Hd := fun E tm o t n K => evsK c.args.toList tm fun vs => lenJ E c.argTypes.toList vs t n K
def hBltM (c : Call) : Hd := fun E tm o t n K => match c.callee with
  | .builtin .delete => hDelete c E tm o t n K
  | .builtin .len => hLen c E tm o t n K
  | _ => hBlt c E tm o t n K
theorem map_erase (ρ : Nat → Nat) (rows : List SRow) (j : Nat) : (rows.eraseIdx j).map (instR ρ) = (rows.map (instR ρ)).eraseIdx j := by
  induction rows generalizing j with
  | nil => rfl
  | cons x r ih =>
    cases j with
    | zero => rfl
    | succ j => simp only [List.eraseIdx_cons_succ, List.map_cons, ih]
theorem hBltM_ok {ρ : Nat → Nat} {E : Env} (hE : EnvOk ρ E) (c : Call) : HdOk ρ E (.call c) (hBltM c) := by
  intro tm tr hT o t n K ho h
  have start : ∀ r, acall E.P E.T tr o c (instH ρ t n) = r → aop E.P E.T tr o (instH ρ t n) = r := fun r hr => by
    unfold aop; simp only [ho]; exact hr
  unfold hBltM at h
  split at h
  · rename_i hb
    obtain ⟨vs, h1, h⟩ := evsK_true hT h
    split at h
    · rename_i mt _ x v ht
      obtain ⟨⟨kt, et⟩, h3, h⟩ := bnd_true (r := kts E.T mt) h
      obtain ⟨b, e, c', rows, hu, ⟨cells, h4⟩, h⟩ := mapI_true ρ (n := n) h
      obtain ⟨h5, h⟩ := ifF_true h
      obtain ⟨f, h6, h⟩ := bnd_true (r := smfind E.P E.G kt v rows 0) h
      have h5 := smkey_inst hE.G h5
      have h6 := smfind_inst hE.G h6
      cases f with
      | some f =>
        obtain ⟨t', h7, h⟩ := layK_true ρ (n := n) h
        refine opV (.tu []) (t' := t') (n' := n) (start _ ?_) h
        have : adelete E.P E.T mt (x.inst ρ) (v.inst ρ) (instH ρ t n) = some (instH ρ t' n) := by
          simp only [adelete, h3, h4, h5, h6, Bool.not_true, Bool.or_self, cond_false, Option.map_some, instF]
          rw [← h7, map_erase]
        unfold acall
        simp only [hb, ht, h1, instL, this]
        rfl
      | none =>
        obtain ⟨t', h7, h⟩ := layK_true ρ (n := n) h
        refine opV (.tu []) (t' := t') (n' := n) (start _ ?_) h
        have : adelete E.P E.T mt (x.inst ρ) (v.inst ρ) (instH ρ t n) = some (instH ρ t' n) := by
          simp only [adelete, h3, h4, h5, h6, Bool.not_true, Bool.or_self, cond_false, Option.map_none]
          rw [← h7]
        unfold acall
        simp only [hb, ht, h1, instL, this]
        rfl
    · cases h
  · rename_i hb
    obtain ⟨vs, h1, h⟩ := evsK_true hT h
    unfold lenJ at h
    split at h
    · rename_i ty b ht
      obtain ⟨h2, h⟩ := ifF_true h
      obtain ⟨q, h2⟩ := Option.isSome_iff_exists.1 h2
      obtain ⟨b', e, c', rows, hu, ⟨cells, h4⟩, h⟩ := mapI_true ρ (n := n) h
      rw [fN_eq] at h
      have h4 : mapAt (.map (some b)) (instH ρ t n) = some (b', ⟨cells, e, false⟩, c', rows.map (instR ρ)) := h4
      refine opV (.n .i64 rows.length) (start _ ?_) h
      unfold acall
      simp only [hb, ht, h1, instL, SV.inst, h2, h4, List.length_map]
      rfl
    · exact bltK_ok hE ho hb h1 h
  · exact hBlt_ok hE c tm tr hT o t n K ho h
end
end Go.Ev
/- Code on values that are not known whole. -/
namespace Go.Ev
open Go
set_option linter.unusedVariables false
set_option linter.unusedSimpArgs false
set_option linter.constructorNameAsVariable false
noncomputable section
def sOp (op : Op) : Hd := match op with
  | .move x => hMove x
  | .assign x => hMove x
  | .pick c a b => hPick c a b
  | .alloc e => hAlloc e
  | .box e x => hBox e x
  | .build t ps => hBuild t ps
  | .buildSlice t n ps => hBuildSlice t n ps
  | .load t a => hLoad t a
  | .store t a x => hStore t a x
  | .nilCheck x => hNil x
  | .binOp op t x y _ => hBin op t x y
  | .unOp .not _ x => hNot x
  | .convert s d x => hConvert s d x
  | .makeFunc fn fs cs => hMakeFunc fn fs cs
  | .makeSlice t l c => hMakeSlice t l c
  | .slice t x lo hi mx => hSlice t x lo hi mx
  | .fieldAddr s x f => hFieldAddr s x f
  | .field t x f => hField t x f
  | .indexAddr t x ix => hIndexAddr t x ix
  | .index t x ix => hIndex t x ix
  | .extract x i => hExtract x i
  | .call c => hBltM c
  | .makeMap t none => hMakeMap t
  | .lookup t x i ok => hLookup t x i ok
  | .mapUpdate t x i y => hMapUpdate t x i y
  | .mapEntry t x i => hMapEntry t x i
  | .entryStore _ x s y => hEntryStore x s y
  | .range t x => hRange t x
  | .next x false => hNext x
  | .entry x => hEntry x
  | _ => fun _ _ _ _ _ _ => false
theorem sOp_ok {ρ : Nat → Nat} {E : Env} (hE : EnvOk ρ E) (op : Op) : HdOk ρ E op (sOp op) := by
  unfold sOp
  split
  · exact hMove_ok _ _ _
  · exact hAssign_ok _ _ _
  · exact hPick_ok _ _ _ _ _
  · exact hAlloc_ok hE _
  · exact hBox_ok _ _ _ _
  · exact hBuild_ok hE _ _
  · exact hBuildSlice_ok hE _ _ _
  · exact hLoad_ok _ _ _ _
  · exact hStore_ok _ _ _ _ _
  · exact hNil_ok _ _ _
  · exact hBin_ok hE _ _ _ _ _
  · exact hNot_ok _ _ _ _
  · exact hConvert_ok _ _ _ _ _
  · exact hMakeFunc_ok _ _ _ _ _
  · exact hMakeSlice_ok hE _ _ _
  · exact hSlice_ok _ _ _ _ _ _ _
  · exact hFieldAddr_ok _ _ _ _ _
  · exact hField_ok _ _ _ _ _
  · exact hIndexAddr_ok _ _ _ _ _
  · exact hIndex_ok _ _ _ _ _
  · exact hExtract_ok _ _ _ _
  · exact hBltM_ok hE _
  · exact hMakeMap_ok _ _ _
  · exact hLookup_ok hE _ _ _ _
  · exact hMapUpdate_ok hE _ _ _ _
  · exact hMapEntry_ok hE _ _ _
  · exact hEntryStore_ok _ _ _ _ _ _
  · exact hRange_ok _ _ _ _
  · exact hNext_ok _ _ _
  · exact hEntry_ok _ _ _
  · intro tm tr hT o t n K ho h; cases h
/-! A step -/
abbrev KS := Tm → HT → Nat → Bool
abbrev Cf := FuncId → List SV → HT → Nat → KV → Bool
structure SRel (ρ : Nat → Nat) (tm : Tm) (t : HT) (m : Nat) (s : St) : Prop where
  tm : TRel ρ tm s.tm
  H : s.H = instH ρ t m
def CfOk (ρ : Nat → Nat) (E : Env) (cf : Cf) : Prop := ∀ g args t m K (R : Value → Heap → Prop), cf g args t m K = true → (∀ v t' m', K v t' m' = true → R (v.inst ρ) (instH ρ t' m')) → ACall E.P E.T g ⟨instL ρ args⟩ (instH ρ t m) R
def finK (n : Nat) (dst : Option Tmp) (v : SV) (tm : Tm) (t : HT) (m : Nat) (K : KS) : Bool := Option.rec (motive := fun _ => Bool) (K tm t m) (fun d => ifK (d.blt n) (pT d v tm fun tm => K tm t m) false) dst
theorem finK_true {ρ : Nat → Nat} {n : Nat} {dst : Option Tmp} {v : SV} {tm : Tm} {tr : Tr Value} (hT : TRel ρ tm tr) {t : HT} {m : Nat} {K : KS} {Q : St → Prop} (h : finK n dst v tm t m K = true) (hQ : ∀ tm t m s, K tm t m = true → SRel ρ tm t m s → Q s) : APut n dst (v.inst ρ) tr (instH ρ t m) Q := by
  cases dst with
  | none => exact aput_k rfl (hQ _ _ _ _ h ⟨hT, rfl⟩)
  | some d =>
    obtain ⟨h1, h⟩ := ifF_true h
    obtain ⟨tm', h2, h⟩ := pT_true hT h
    exact aput_k (tm' := tr.put d (some (v.inst ρ))) (by simp only [dput, h1, cond_true]) (hQ _ _ _ _ h ⟨h2, rfl⟩)
def truU (v : SV) (a b c : Bool) : Bool := B4.rec (motive := fun _ => Bool) false a b c (asB v)
theorem truU_true {v : SV} {a b c : Bool} (h : truU v a b c = true) : (v = .t ∧ a = true) ∨ (v = .f ∧ b = true) ∨ (v = .u ∧ c = true) := by
  unfold truU at h
  cases ha : asB v with
  | no => rw [ha] at h; cases h
  | u => rw [ha] at h; exact .inr (.inr ⟨asB_u ha, h⟩)
  | t => rw [ha] at h; exact .inl ⟨asB_t ha, h⟩
  | f => rw [ha] at h; exact .inr (.inl ⟨asB_f ha, h⟩)
def wantK (ops : Array Oper) (tm : Tm) (o : Oper) (A B : Bool) : Bool := Option.rec (motive := fun _ => Bool) A (fun p => bnd ((ops[p.1]?).bind (·.dst)) fun d => gT d tm fun v => truU v (ifK p.2 A B) (ifK p.2 B A) B) o.guard
theorem wantK_true {ρ : Nat → Nat} {ops : Array Oper} {tm : Tm} {tr : Tr Value} (hT : TRel ρ tm tr) {o : Oper} {A B : Bool} (h : wantK ops tm o A B = true) : (awanted ops tr o = true ∧ A = true) ∨ (awanted ops tr o = false ∧ B = true) := by
  unfold wantK at h
  unfold awanted
  cases hg : o.guard with
  | none => rw [hg] at h; exact .inl ⟨rfl, h⟩
  | some p =>
    rw [hg] at h
    obtain ⟨j, w⟩ := p
    obtain ⟨d, h1, h⟩ := bnd_true (r := (ops[j]?).bind (·.dst)) h
    obtain ⟨v, h3, h⟩ := gT_true hT h
    simp only [h1]
    rcases truU_true h with ⟨rfl, h⟩ | ⟨rfl, h⟩ | ⟨rfl, h⟩
    · have hg : tr.get d = some (.bool true) := by
        cases hh : tr.get d with
        | none => rw [hh] at h3; cases h3
        | some x => rw [hh] at h3; exact congrArg some h3
      rw [hg]
      rcases ifK_true h with ⟨h3, h⟩ | ⟨h3, h⟩ <;> simp only at h3 <;> subst h3
      · exact .inl ⟨rfl, h⟩
      · exact .inr ⟨rfl, h⟩
    · have hg : tr.get d = some (.bool false) := by
        cases hh : tr.get d with
        | none => rw [hh] at h3; cases h3
        | some x => rw [hh] at h3; exact congrArg some h3
      rw [hg]
      rcases ifK_true h with ⟨h3, h⟩ | ⟨h3, h⟩ <;> simp only at h3 <;> subst h3
      · exact .inr ⟨rfl, h⟩
      · exact .inl ⟨rfl, h⟩
    · refine .inr ⟨?_, h⟩
      cases hh : tr.get d with
      | none => rfl
      | some x =>
        rw [hh] at h3
        have h3 : x = undef := h3
        subst h3; rfl
def isVal (op : Op) : Option (Operand × List Operand) := match op with
  | .call c => (match c.callee with | .value f => some (f, c.args.toList) | _ => none)
  | _ => none
def fnK (v : SV) (K : FuncId → List SV → List SV → Bool) : Bool := match v with
  | .fn g fs cs => K g fs cs
  | _ => false
def callK (E : Env) (cf : Cf) (f : Operand) (args : List Operand) (tm : Tm) (t : HT) (m : Nat) (K : KV) : Bool := evK f tm fun v => fnK v fun g fs cs => evsK args tm fun l => catK fs l fun l => catK l cs fun l => ifK (E.T.can g).isSome (cf g l t m K) false
theorem callK_true {ρ : Nat → Nat} {E : Env} {cf : Cf} (hcf : CfOk ρ E cf) {o : Oper} {f : Operand} {args : List Operand} {tm : Tm} {tr : Tr Value} (hT : TRel ρ tm tr) {t : HT} {m : Nat} {K : KV} (hv : isVal o.op = some (f, args)) (h : callK E cf f args tm t m K = true) :
    ∃ g a, aop E.P E.T tr o (instH ρ t m) = some (.enter g a, instH ρ t m) ∧ ∀ R : Value → Heap → Prop, (∀ v t' m', K v t' m' = true → R (v.inst ρ) (instH ρ t' m')) → ACall E.P E.T g a (instH ρ t m) R := by
  obtain ⟨v, h1, h⟩ := evK_true hT h
  unfold fnK at h
  split at h
  · rename_i g fs cs
    obtain ⟨l, h2, h⟩ := evsK_true hT h
    rw [catK_eq, catK_eq] at h
    obtain ⟨h3, h⟩ := ifF_true h
    refine ⟨g, ⟨instL ρ (fs ++ l ++ cs)⟩, ?_, fun R hR => hcf _ _ _ _ _ R h hR⟩
    unfold isVal at hv
    split at hv
    · rename_i c ho
      split at hv
      · rename_i f' hc
        cases hv
        obtain ⟨fn, hfn⟩ := Option.isSome_iff_exists.1 h3
        unfold aop
        simp only [ho, acall, hc, h1, h2, SV.inst, hfn]
        congr 3
        simp [instL_map]
      · cases hv
    · cases hv
  · cases h
/-- An operation that a flag may turn off; what comes behind is named once. -/
def guardJ (v : SV) (w : Bool) (F : KV → Bool) (J : KV) (t : HT) (m : Nat) : Bool := truU v (ifK w (F J) (J .u t m)) (ifK w (J .u t m) (F J)) (J .u t m)
def wantJ (ops : Array Oper) (tm : Tm) (o : Oper) (F : KV → Bool) (J : KV) (t : HT) (m : Nat) : Bool := Option.rec (motive := fun _ => Bool) (F J) (fun p => bnd ((ops[p.1]?).bind (·.dst)) fun d => gT d tm fun v => guardJ v p.2 F J t m) o.guard
theorem wantJ_true {ρ : Nat → Nat} {ops : Array Oper} {tm : Tm} {tr : Tr Value} (hT : TRel ρ tm tr) {o : Oper} {F : KV → Bool} {J : KV} {t : HT} {m : Nat} (h : wantJ ops tm o F J t m = true) : (awanted ops tr o = true ∧ F J = true) ∨ (awanted ops tr o = false ∧ J .u t m = true) := by
  refine wantK_true hT (A := F J) (B := J .u t m) ?_
  unfold wantJ guardJ at h
  exact h
def stepK (E : Env) (n : Nat) (cf : Cf) (ops : Array Oper) (o : Oper) (tm : Tm) (t : HT) (m : Nat) (K : KS) : Bool :=
  wantJ ops tm o (fun J => Option.rec (motive := fun _ => Bool) (sOp o.op E tm o t m J) (fun p => callK E cf p.1 p.2 tm t m J) (isVal o.op)) (fun v t m => finK n o.dst v tm t m K) t m
theorem stepK_true {ρ : Nat → Nat} {E : Env} (hE : EnvOk ρ E) {n : Nat} {cf : Cf} (hcf : CfOk ρ E cf) {ops : Array Oper} {o : Oper} {tm : Tm} {t : HT} {m : Nat} {K : KS} {Q : St → Prop} (h : stepK E n cf ops o tm t m K = true) (hQ : ∀ tm t m s, K tm t m = true → SRel ρ tm t m s → Q s) {s : St} (hs : SRel ρ tm t m s) :
    AStep E.P E.T n ops o Q s := by
  obtain ⟨tr, H⟩ := s
  obtain ⟨hT, hH⟩ := hs
  simp only at hT hH
  subst hH
  unfold AStep
  rcases wantJ_true hT h with ⟨h1, h⟩ | ⟨h1, h⟩
  · simp only [h1, cond_true]
    cases hv : isVal o.op with
    | none =>
      rw [hv] at h
      obtain ⟨v, t', n', h2, h⟩ := sOp_ok hE o.op tm tr hT o t m _ rfl h
      rcases h2 with h2 | ⟨rfl, h2⟩
      · rw [h2]; exact finK_true hT h hQ
      · rw [h2]; exact finK_true hT (v := .u) h hQ
    | some p =>
      rw [hv] at h
      obtain ⟨f, args⟩ := p
      obtain ⟨g, a, h2, h3⟩ := callK_true hcf hT hv h
      rw [h2]
      exact h3 _ fun v t' m' hk => finK_true hT hk hQ
  · simp only [h1, cond_false]
    exact finK_true hT (v := .u) h hQ
def opsK (E : Env) (n : Nat) (cf : Cf) (ops : Array Oper) (l : List Oper) : Tm → HT → Nat → KS → Bool := List.rec (motive := fun _ => Tm → HT → Nat → KS → Bool) (fun tm t m K => K tm t m) (fun o _ ih tm t m K => stepK E n cf ops o tm t m fun tm t m => ih tm t m K) l
theorem opsK_true {ρ : Nat → Nat} {E : Env} (hE : EnvOk ρ E) {n : Nat} {cf : Cf} (hcf : CfOk ρ E cf) {ops : Array Oper} {Q : St → Prop} : ∀ {l : List Oper} {tm : Tm} {t : HT} {m : Nat} {K : KS}, opsK E n cf ops l tm t m K = true → (∀ tm t m s, K tm t m = true → SRel ρ tm t m s → Q s) → ∀ s, SRel ρ tm t m s → AOps E.P E.T n ops l Q s := by
  intro l
  induction l with
  | nil => intro tm t m K h hQ s hs; exact aops_nil (hQ _ _ _ _ h hs)
  | cons o l ih =>
    intro tm t m K h hQ s hs
    exact aops_cons (stepK_true hE hcf (K := fun tm t m => opsK E n cf ops l tm t m K) h (fun tm t m s hk hs => ih hk hQ s hs) hs)
/-! Where loads may stand elsewhere -/
structure SS where
  tm : Tm
  t : HT
  m : Nat
def SS.rel (ρ : Nat → Nat) (x : SS) (s : St) : Prop := SRel ρ x.tm x.t x.m s
inductive SSs (ρ : Nat → Nat) : List SS → List St → Prop
  | nil : SSs ρ [] []
  | cons {x : SS} {s : St} {r : List SS} {l : List St} (h : x.rel ρ s) (t : SSs ρ r l) : SSs ρ (x :: r) (s :: l)
theorem SSs.at {ρ : Nat → Nat} {r : List SS} {l : List St} (h : SSs ρ r l) : ∀ {i : Nat} {x : SS}, r[i]? = some x → ∃ s, l[i]? = some s ∧ x.rel ρ s := by
  induction h with
  | nil => intro i x h; simp at h
  | cons h t ih =>
    intro i x hx
    cases i with
    | zero => simp at hx; subst hx; exact ⟨_, rfl, h⟩
    | succ i => obtain ⟨s, h1, h2⟩ := ih (i := i) (by simpa using hx); exact ⟨s, by simpa using h1, h2⟩
def trK (E : Env) (n : Nat) (cf : Cf) (ops : Array Oper) (l : List Oper) : Tm → HT → Nat → (List SS → KS) → Bool := List.rec (motive := fun _ => Tm → HT → Nat → (List SS → KS) → Bool) (fun tm t m K => K [⟨tm, t, m⟩] tm t m)
  (fun o _ ih tm t m K => stepK E n cf ops o tm t m fun tm' t' m' => ih tm' t' m' fun r tm2 t2 m2 => K (⟨tm, t, m⟩ :: r) tm2 t2 m2) l
theorem trK_true {ρ : Nat → Nat} {E : Env} (hE : EnvOk ρ E) {n : Nat} {cf : Cf} (hcf : CfOk ρ E cf) {ops : Array Oper} {Q : List St → St → Prop} : ∀ {l : List Oper} {acc : List St} {tm : Tm} {t : HT} {m : Nat} {K : List SS → KS}, trK E n cf ops l tm t m K = true →
    (∀ r rs tm t m s, K r tm t m = true → SSs ρ r rs → SRel ρ tm t m s → Q (acc ++ rs) s) → ∀ s, SRel ρ tm t m s → ATr E.P E.T n ops l acc Q s := by
  intro l
  induction l with
  | nil => intro acc tm t m K h hQ s hs; exact hQ _ [s] _ _ _ _ h (.cons hs .nil) hs
  | cons o l ih =>
    intro acc tm t m K h hQ s hs
    refine stepK_true hE hcf (K := fun tm' t' m' => trK E n cf ops l tm' t' m' fun r tm2 t2 m2 => K (⟨tm, t, m⟩ :: r) tm2 t2 m2) h (fun tm' t' m' s' hk hs' => ih hk (fun r rs tm2 t2 m2 s2 hk2 hr hs2 => ?_) s' hs') hs
    have := hQ _ (s :: rs) _ _ _ _ hk2 (.cons hs hr) hs2
    simpa using this
def svEq0 : SV → SV → Bool
  | .n k a, .n k' b => k == k' && a.beq b
  | .z k a, .z k' b => k == k' && a.beq b
  | .w k x, .w k' y => k == k' && wEq x y
  | .t, .t => true
  | .f, .f => true
  | .p b o, .p b' o' => b.beq b' && o.beq o'
  | .np, .np => true
  | .sl b o l c, .sl b' o' l' c' => b.beq b' && o.beq o' && l.beq l' && c.beq c'
  | .ns, .ns => true
  | .m b, .m b' => b.beq b'
  | .nm, .nm => true
  | .nf, .nf => true
  | _, _ => false
def svEqs : List SV → List SV → Bool
  | [], [] => true
  | u :: a, v :: b => svEq0 u v && svEqs a b
  | _, _ => false
def svEq : SV → SV → Bool
  | .ag l, .ag l' => svEqs l l'
  | .st l, .st l' => svEqs l l'
  | u, v => svEq0 u v
theorem svEq0_spec (ρ : Nat → Nat) {u v : SV} (h : svEq0 u v = true) : u = v ∧ veq0 (u.inst ρ) (v.inst ρ) = true := by
  unfold svEq0 at h
  split at h
  all_goals first
    | (cases h; done)
    | exact ⟨rfl, rfl⟩
    | (simp only [Bool.and_eq_true, beq_iff_eq, Nat.beq_eq] at h
       first
        | (obtain ⟨rfl, h⟩ := h
           first
            | (obtain rfl := wEq_sound _ _ h; exact ⟨rfl, by simp [SV.inst, veq0]⟩)
            | (subst h; exact ⟨rfl, by simp [SV.inst, veq0]⟩))
        | (obtain ⟨⟨⟨rfl, rfl⟩, rfl⟩, rfl⟩ := h; exact ⟨rfl, by simp [SV.inst, veq0]⟩)
        | (subst h; exact ⟨rfl, by simp [SV.inst, veq0]⟩))
theorem svEqs_spec (ρ : Nat → Nat) : ∀ {a b : List SV}, svEqs a b = true → a = b ∧ veqs (instL ρ a) (instL ρ b) = true := by
  intro a
  induction a with
  | nil => intro b h; cases b with
    | nil => exact ⟨rfl, rfl⟩
    | cons v b => cases h
  | cons u a ih =>
    intro b h
    cases b with
    | nil => cases h
    | cons v b =>
      simp only [svEqs, Bool.and_eq_true] at h
      obtain ⟨rfl, h1⟩ := svEq0_spec ρ h.1
      obtain ⟨rfl, h2⟩ := ih h.2
      exact ⟨rfl, by simp only [instL, veqs, h1, h2, Bool.and_self]⟩
theorem veq_of0 {u v : Value} (h : veq0 u v = true) : veq u v = true := by
  unfold veq
  split
  · simp [veq0] at h
  · exact h
theorem svEq_spec (ρ : Nat → Nat) {u v : SV} (h : svEq u v = true) : veq (u.inst ρ) (v.inst ρ) = true := by
  unfold svEq at h
  split at h
  · obtain ⟨rfl, h1⟩ := svEqs_spec ρ h; exact h1
  · obtain ⟨rfl, h1⟩ := svEqs_spec ρ h
    simp [SV.inst, veq, veq0]
  · exact veq_of0 (svEq0_spec ρ h).2
def lkK (T : Tab) (op : Op) (v : SV) (t : HT) (K : SV → Bool) : Bool := match op with
  | .load ty _ => ldK T ty v t K
  | .convert s d _ => convK T s d v t K
  | _ => false
theorem lkK_true (ρ : Nat → Nat) {T : Tab} {op : Op} {v : SV} {t : HT} {n : Nat} {K : SV → Bool} (h : lkK T op v t K = true) : ∃ u, alook T op (v.inst ρ) (instH ρ t n) = some (u.inst ρ) ∧ K u = true := by
  unfold lkK at h
  split at h
  · exact ldK_true ρ h
  · exact convK_true ρ h
  · cases h
def stdB (E : Env) (ops : Array Oper) (l : List SS) (p : Nat × Nat) : Bool := nthK l p.1 fun s => bnd ops[p.1]? fun o => wantK ops s.tm o
  (bnd (lookArg o.op) fun a => evK a s.tm fun v => nthK l p.2 fun s1 => nthK l (p.2 + 1) fun s2 => lkK E.T o.op v s.t fun u => lkK E.T o.op v s1.t fun u1 => lkK E.T o.op v s2.t fun u2 => ifK (svEq u1 u) (svEq u2 u) false) true
theorem stdB_true {ρ : Nat → Nat} {E : Env} {ops : Array Oper} {l : List SS} {rs : List St} (hr : SSs ρ l rs) {p : Nat × Nat} (h : stdB E ops l p = true) : steady E.T ops rs p = true := by
  obtain ⟨x, h1, h⟩ := nthK_true h
  obtain ⟨s, hs, ⟨hT, hH⟩⟩ := hr.at h1
  obtain ⟨o, h2, h⟩ := bnd_true (r := ops[p.1]?) h
  unfold steady
  simp only [hs, h2]
  rcases wantK_true hT h with ⟨h3, h⟩ | ⟨h3, _⟩
  · rw [h3]
    obtain ⟨a, h4, h⟩ := bnd_true (r := lookArg o.op) h
    obtain ⟨v, h5, h⟩ := evK_true hT h
    obtain ⟨x1, h6, h⟩ := nthK_true h
    obtain ⟨x2, h7, h⟩ := nthK_true h
    obtain ⟨s1, k1, ⟨_, hH1⟩⟩ := hr.at h6
    obtain ⟨s2, k2, ⟨_, hH2⟩⟩ := hr.at h7
    obtain ⟨u, h8, h⟩ := lkK_true ρ (n := x.m) h
    obtain ⟨u1, h9, h⟩ := lkK_true ρ (n := x1.m) h
    obtain ⟨u2, h10, h⟩ := lkK_true ρ (n := x2.m) h
    obtain ⟨h11, h12⟩ := ifF_true h
    rw [← hH] at h8
    rw [← hH1] at h9
    rw [← hH2] at h10
    simp only [cond_true, h4, h5, k1, k2, h8, h9, h10, svEq_spec ρ h11, svEq_spec ρ h12, Bool.and_self]
  · rw [h3]; rfl
def stdAll (E : Env) (ops : Array Oper) (l : List SS) (ps : List (Nat × Nat)) (K : Bool) : Bool := List.rec (motive := fun _ => Bool) K (fun p _ ih => ifK (stdB E ops l p) ih false) ps
theorem stdAll_true {ρ : Nat → Nat} {E : Env} {ops : Array Oper} {l : List SS} {rs : List St} (hr : SSs ρ l rs) {K : Bool} : ∀ {ps : List (Nat × Nat)}, stdAll E ops l ps K = true → ps.all (steady E.T ops rs) = true ∧ K = true := by
  intro ps
  induction ps with
  | nil => intro h; exact ⟨rfl, h⟩
  | cons p ps ih =>
    intro h
    obtain ⟨h1, h⟩ := ifF_true h
    obtain ⟨h2, h3⟩ := ih h
    exact ⟨by rw [List.all_cons, stdB_true hr h1, h2]; rfl, h3⟩
def regK (E : Env) (n : Nat) (cf : Cf) (ops : Array Oper) (draw : Bool) (tm : Tm) (t : HT) (m : Nat) (K : KS) : Bool := Bool.rec (motive := fun _ => Bool) (opsK E n cf ops ops.toList tm t m K)
  (List.rec (motive := fun _ => Bool) (opsK E n cf ops ops.toList tm t m K) (fun p ps _ => trK E n cf ops ops.toList tm t m fun l tm t m => stdAll E ops l (p :: ps) (K tm t m)) (loose E.T ops)) draw
theorem regK_true {ρ : Nat → Nat} {E : Env} (hE : EnvOk ρ E) {n : Nat} {cf : Cf} (hcf : CfOk ρ E cf) {id : Nat} {ops : Array Oper} {draw : Bool} {tm : Tm} {t : HT} {m : Nat} {K : KS} {Q : Xt → St → Prop} (h : regK E n cf ops draw tm t m K = true) (hQ : ∀ tm t m s, K tm t m = true → SRel ρ tm t m s → Q .normal s) {s : St} (hs : SRel ρ tm t m s) :
    Aw E.P E.T n (.region id ops draw) Q s := by
  cases draw
  · exact aw_region (opsK_true hE hcf h hQ s hs)
  · obtain ⟨l⟩ := ops
    unfold regK at h
    cases hl : loose E.T l.toArray with
    | nil =>
      rw [hl] at h
      exact aw_draw0 hl (opsK_true hE hcf h hQ s hs)
    | cons p ps =>
      rw [hl] at h
      refine aw_draw (trK_true hE hcf (acc := []) h (fun r rs tm t m s hk hr hs => ?_) s hs)
      obtain ⟨h1, h2⟩ := stdAll_true hr hk
      exact ⟨by rw [hl, List.nil_append]; exact h1, hQ _ _ _ _ h2 hs⟩
/-! Code -/
abbrev KX := Xt → Tm → HT → Nat → Bool
abbrev Cd := Nat → Code → Tm → HT → Nat → KX → Bool
def initK (l : List SV) : Nat → Tm → (Tm → Bool) → Bool := List.rec (motive := fun _ => Nat → Tm → (Tm → Bool) → Bool) (fun _ tm K => K tm) (fun v _ ih k tm K => pT k v tm fun tm => fN (Nat.succ k) fun k => ih k tm K) l
theorem initK_true (ρ : Nat → Nat) : ∀ {l : List SV} {k : Nat} {tm : Tm} {tr : Tr Value} {K : Tm → Bool}, TRel ρ tm tr → initK l k tm K = true → ∃ tm', TRel ρ tm' (initTm.go (instL ρ l) k tr) ∧ K tm' = true := by
  intro l
  induction l with
  | nil => intro k tm tr K hT h; exact ⟨tm, hT, h⟩
  | cons v l ih =>
    intro k tm tr K hT h
    obtain ⟨tm', h1, h⟩ := pT_true hT h
    rw [fN_eq] at h
    exact ih h1 h
def resK (T : Tab) (rs : List ResultVar) (tm : Tm) (t : HT) : (List SV → Bool) → Bool := List.rec (motive := fun _ => (List SV → Bool) → Bool) (fun K => K []) (fun r _ ih K => ResultVar.rec (motive := fun _ => Bool) (fun x => gT x tm fun v => ih fun l => K (v :: l)) (fun a ty => gT a tm fun v => ldK T ty v t fun u => ih fun l => K (u :: l)) r) rs
theorem resK_true {ρ : Nat → Nat} {T : Tab} {tm : Tm} {tr : Tr Value} (hT : TRel ρ tm tr) {t : HT} {m : Nat} : ∀ {rs : List ResultVar} {K : List SV → Bool}, resK T rs tm t K = true → ∃ l, results1 T tr (instH ρ t m) rs = some (instL ρ l) ∧ K l = true := by
  intro rs
  induction rs with
  | nil => intro K h; exact ⟨[], rfl, h⟩
  | cons r rs ih =>
    intro K h
    cases r with
    | tmp x =>
      have h : gT x tm (fun v => resK T rs tm t fun l => K (v :: l)) = true := h
      obtain ⟨v, h1, h⟩ := gT_true hT h
      obtain ⟨l, h2, h⟩ := ih h
      exact ⟨v :: l, by simp only [results1, h2, h1, instL], h⟩
    | cell a ty =>
      have h : gT a tm (fun v => ldK T ty v t fun u => resK T rs tm t fun l => K (u :: l)) = true := h
      obtain ⟨v, h1, h⟩ := gT_true hT h
      obtain ⟨u, h2, h⟩ := ldK_true ρ (n := m) h
      obtain ⟨l, h3, h⟩ := ih h
      exact ⟨u :: l, by simp only [results1, h3, h1, h2, instL], h⟩
def outK (l : List SV) (K : SV → Bool) : Bool := List.rec (motive := fun _ => Bool) (K (.tu [])) (fun v r _ => List.rec (motive := fun _ => Bool) (K v) (fun _ _ _ => K (.tu l)) r) l
theorem outK_true (ρ : Nat → Nat) {T : Tab} {tm : Tr Value} {H : Heap} {rs : Array ResultVar} {l : List SV} {K : SV → Bool} (hr : results1 T tm H rs.toList = some (instL ρ l)) (h : outK l K = true) : ∃ v, aresults T tm H rs = some (SV.inst ρ v) ∧ K v = true := by
  have tup : ∀ l', l = l' → l'.length ≠ 1 → K (.tu l') = true → ∃ v, aresults T tm H rs = some (SV.inst ρ v) ∧ K v = true := fun l' e hl hk => by
    subst e
    refine ⟨.tu l, ?_, hk⟩
    unfold aresults
    rw [hr]
    cases l with
    | nil => rfl
    | cons a l => cases l with
      | nil => exact absurd rfl hl
      | cons b l => rfl
  cases l with
  | nil => exact tup [] rfl (by simp) h
  | cons v r => cases r with
    | nil => exact ⟨v, by unfold aresults; rw [hr]; rfl, h⟩
    | cons b r => exact tup _ rfl (by simp) h
def clK (E : Env) (cd : Cd) : Cf := fun g args t m K => Option.rec (motive := fun _ => Bool)
  (bnd (E.T.fn g) fun fn => bnd fn.body fun c => fN (args.length + (fn.ntmps - args.length)) fun n => initK args 0 e3 fun tm => cd n c tm t m fun x tm t m => Xt.rec (motive := fun _ => Bool)
    (resK E.T fn.results.toList tm t fun l => outK l fun v => K v t m) (resK E.T fn.results.toList tm t fun l => outK l fun v => K v t m) (fun _ => false) x)
  (fun h => h args t m K) (E.mac g)
def CdOk (ρ : Nat → Nat) (E : Env) (cd : Cd) : Prop := ∀ n c tm t m K (Q : Xt → St → Prop), cd n c tm t m K = true → (∀ x tm t m s, K x tm t m = true → SRel ρ tm t m s → Q x s) → ∀ s, SRel ρ tm t m s → Aw E.P E.T n c Q s
theorem instL_len (ρ : Nat → Nat) (l : List SV) : (instL ρ l).length = l.length := by rw [instL_map, List.length_map]
theorem clK_ok {ρ : Nat → Nat} {E : Env} (hE : EnvOk ρ E) {cd : Cd} (hcd : CdOk ρ E cd) : CfOk ρ E (clK E cd) := by
  intro g args t m K R h hR
  unfold clK at h
  cases hm : E.mac g with
  | some f =>
    rw [hm] at h
    exact hE.mac g f hm args t m K R h hR
  | none =>
    rw [hm] at h
    obtain ⟨fn, h1, h⟩ := bnd_true (r := E.T.fn g) h
    obtain ⟨c, h2, h⟩ := bnd_true (r := fn.body) h
    rw [fN_eq] at h
    obtain ⟨tm, h3, h⟩ := initK_true ρ (TRel.empty ρ) h
    refine acall_of' (args.length + (fn.ntmps - args.length)) _ (hE.orc _ _) h1 h2 (by show (instL ρ args).length + (fn.ntmps - (instL ρ args).length) = _; rw [instL_len]) rfl (hcd _ _ _ _ _ _ _ h (fun x tm t m s hk hs => ?_) ⟨_, _⟩ ⟨h3, rfl⟩)
    obtain ⟨tr, H⟩ := s
    obtain ⟨hT, hH⟩ := hs
    simp only at hT hH
    subst hH
    cases x with
    | normal =>
      obtain ⟨l, h4, h5⟩ := resK_true hT (m := m) hk
      obtain ⟨v, h6, h7⟩ := outK_true ρ h4 h5
      exact bodyQ_normal ⟨_, h6, hR _ _ _ h7⟩
    | ret =>
      obtain ⟨l, h4, h5⟩ := resK_true hT (m := m) hk
      obtain ⟨v, h6, h7⟩ := outK_true ρ h4 h5
      exact bodyQ_ret ⟨_, h6, hR _ _ _ h7⟩
    | exit i => cases hk
def cdS (E : Env) (cf : Cf) (cd : Cd) : Cd := fun n c tm t m K => match c with
  | .skip => K .normal tm t m
  | .label _ => K .normal tm t m
  | .ret => K .ret tm t m
  | .exit i => K (.exit i) tm t m
  | .region _ ops draw => regK E n cf ops draw tm t m fun tm t m => K .normal tm t m
  | .seq a b => cd n a tm t m fun x tm t m => Xt.rec (motive := fun _ => Bool) (cd n b tm t m K) (K .ret tm t m) (fun i => K (.exit i) tm t m) x
  | .cond x a b => evK x tm fun v => truK v (cd n a tm t m K) (cd n b tm t m K)
  | .block id c => cd n c tm t m fun x tm t m => Xt.rec (motive := fun _ => Bool) (K .normal tm t m) (K .ret tm t m) (fun i => ifK (i.beq id) (K .normal tm t m) (K (.exit i) tm t m)) x
  | .loop c => cd n c tm t m fun x tm t m => Xt.rec (motive := fun _ => Bool) (cd n (.loop c) tm t m K) (K .ret tm t m) (fun i => K (.exit i) tm t m) x
  | .scope c => cd n c tm t m K
  | _ => false
theorem cdS_ok {ρ : Nat → Nat} {E : Env} (hE : EnvOk ρ E) {cf : Cf} (hcf : CfOk ρ E cf) {cd : Cd} (hcd : CdOk ρ E cd) : CdOk ρ E (cdS E cf cd) := by
  intro n c tm t m K Q h hQ s hs
  unfold cdS at h
  split at h
  · exact aw_skip (hQ _ _ _ _ _ h hs)
  · exact aw_label (hQ _ _ _ _ _ h hs)
  · exact aw_ret (hQ _ _ _ _ _ h hs)
  · exact aw_exit (hQ _ _ _ _ _ h hs)
  · exact regK_true hE hcf h (fun tm t m s hk hs => hQ _ _ _ _ _ hk hs) hs
  · rename_i a b
    refine aw_seq (hcd _ _ _ _ _ _ _ h (fun x tm t m s hk hs => ?_) s hs)
    cases x with
    | normal => exact then_normal (hcd _ _ _ _ _ _ _ hk hQ s hs)
    | ret => exact then_ret (hQ _ _ _ _ _ hk hs)
    | exit i => exact then_exit (hQ _ _ _ _ _ hk hs)
  · rename_i x a b
    obtain ⟨v, h1, h⟩ := evK_true hs.tm h
    rcases truK_true h with ⟨rfl, h⟩ | ⟨rfl, h⟩
    · exact aw_cond (t := true) h1 (hcd _ _ _ _ _ _ _ h hQ s hs)
    · exact aw_cond (t := false) h1 (hcd _ _ _ _ _ _ _ h hQ s hs)
  · rename_i id c
    refine aw_block (hcd _ _ _ _ _ _ _ h (fun x tm t m s hk hs => ?_) s hs)
    cases x with
    | normal => exact blk_normal (hQ _ _ _ _ _ hk hs)
    | ret => exact blk_ret (hQ _ _ _ _ _ hk hs)
    | exit i =>
      rcases ifK_true hk with ⟨h1, hk'⟩ | ⟨h1, hk'⟩
      · obtain rfl := Nat.eq_of_beq_eq_true h1
        exact blk_hit (hQ _ _ _ _ _ hk' hs)
      · exact blk_miss h1 (hQ _ _ _ _ _ hk' hs)
  · rename_i c
    refine aw_loop_once (hcd _ _ _ _ _ _ _ h (fun x tm t m s hk hs => ?_) s hs)
    cases x with
    | normal => exact then_normal (hcd _ _ _ _ _ _ _ hk hQ s hs)
    | ret => exact then_ret (hQ _ _ _ _ _ hk hs)
    | exit i => exact then_exit (hQ _ _ _ _ _ hk hs)
  · exact aw_scope (hcd _ _ _ _ _ _ _ h hQ s hs)
  · cases h
def cdK (E : Env) (k : Nat) : Cd := Nat.rec (motive := fun _ => Cd) (fun _ _ _ _ _ _ => false) (fun _ ih => cdS E (clK E ih) ih) k
theorem cdK_ok {ρ : Nat → Nat} {E : Env} (hE : EnvOk ρ E) (k : Nat) : CdOk ρ E (cdK E k) := by
  induction k with
  | zero => intro n c tm t m K Q h hQ s hs; cases h
  | succ k ih => exact cdS_ok hE (clK_ok hE ih) ih
/-- **From a run on values that are not known to what the code comes to.** -/
theorem sym_call {ρ : Nat → Nat} {E : Env} (hE : EnvOk ρ E) (k : Nat) {f : FuncId} {args : List SV} {t : HT} {m : Nat} {K : KV} {R : Value → Heap → Prop} (h : clK E (cdK E k) f args t m K = true) (hR : ∀ v t' m', K v t' m' = true → R (v.inst ρ) (instH ρ t' m')) :
    ACall E.P E.T f ⟨instL ρ args⟩ (instH ρ t m) R := clK_ok hE (cdK_ok hE k) _ _ _ _ _ _ h hR
end
end Go.Ev
/- Code that is put together once: what the kernel works out of a text before it runs. -/
namespace Go.Ev
open Go
set_option linter.unusedVariables false
set_option linter.unusedSimpArgs false
set_option linter.constructorNameAsVariable false
noncomputable section
abbrev OpF := Cf → Tm → HT → Nat → KV → Bool
abbrev RegF := Cf → Tm → HT → Nat → KS → Bool
abbrev CX := Cf → Tm → HT → Nat → KX → Bool
def BxP {α : Type} (P : α → Prop) (b : Bx α) : Prop := ∃ f, b = .mk f ∧ P f
theorem BxP.rec_ {α β : Type} {P : α → Prop} {Q : β → Prop} {b : Bx α} {F : α → Bx β} (h : BxP P b) (hF : ∀ f, P f → BxP Q (F f)) : BxP Q (Bx.rec (motive := fun _ => Bx β) F b) := by
  obtain ⟨f, rfl, hf⟩ := h
  exact hF f hf
/-! Operands -/
abbrev Rd := Tm → (SV → Bool) → Bool
def cOK {β : Type} (d : Bx β) (x : Operand) (F : Rd → Bx β) : Bx β := Operand.rec (motive := fun _ => Bx β)
  (fun i => Bool.rec (motive := fun _ => Bx β) d (Bx.rec (motive := fun _ => Bx β) F (rdG i 3)) (Nat.ble (Nat.succ i) 512))
  (fun v => Option.rec (motive := fun _ => Bx β) d (fun s => F fun _ K => K s) (cv v)) (fun _ => d) (fun f => F fun _ K => K (.fn f [] [])) x
theorem cOK_p {β : Type} {P : β → Prop} {d : Bx β} (hd : BxP P d) {x : Operand} {F : Rd → Bx β} (hF : ∀ g : Rd, (∀ tm K, evK x tm K = g tm K) → BxP P (F g)) : BxP P (cOK d x F) := by
  cases x with
  | tmp i =>
    unfold cOK
    obtain ⟨f, hf, _⟩ := rdG_ok i 3
    cases hb : Nat.ble (Nat.succ i) 512
    · simp only [hb]; exact hd
    · simp only [hb, hf]
      refine hF _ fun tm K => ?_
      show ifK (Nat.ble (Nat.succ i) 512) (Bx.rec (motive := fun _ => Bool) (fun g => g tm K) (rdG i 3)) false = _
      rw [hb, hf]; rfl
  | const v =>
    unfold cOK
    cases hv : cv v with
    | none => simp only [hv]; exact hd
    | some s =>
      simp only [hv]
      refine hF _ fun tm K => ?_
      show bnd (cv v) K = _
      rw [hv]; rfl
  | global g => exact hd
  | func f => exact hF _ fun tm K => rfl
abbrev Rds := Tm → (List SV → Bool) → Bool
def cAs {β : Type} (d : Bx β) (l : List Operand) : (Rds → Bx β) → Bx β := List.rec (motive := fun _ => (Rds → Bx β) → Bx β) (fun F => F fun _ K => K []) (fun x _ ih F => cOK d x fun g => ih fun h => F fun tm K => g tm fun v => h tm fun l => K (v :: l)) l
theorem cAs_p {β : Type} {P : β → Prop} {d : Bx β} (hd : BxP P d) : ∀ {l : List Operand} {F : Rds → Bx β}, (∀ g : Rds, (∀ tm K, evsK l tm K = g tm K) → BxP P (F g)) → BxP P (cAs d l F) := by
  intro l
  induction l with
  | nil => intro F hF; exact hF _ fun tm K => rfl
  | cons x l ih =>
    intro F hF
    show BxP P (cOK d x fun g => cAs d l fun h => F fun tm K => g tm fun v => h tm fun l => K (v :: l))
    refine cOK_p hd fun g hg => ih fun h hh => hF _ fun tm K => ?_
    show evK x tm (fun v => evsK l tm fun l => K (v :: l)) = _
    rw [hg]
    exact congrArg (g tm) (funext fun v => hh tm _)
abbrev Rps := Tm → (List (Nat × SV) → Bool) → Bool
def cPs {β : Type} (d : Bx β) (l : List (Nat × Operand)) : (Rps → Bx β) → Bx β := List.rec (motive := fun _ => (Rps → Bx β) → Bx β) (fun F => F fun _ K => K []) (fun x _ ih F => cOK d x.2 fun g => ih fun h => F fun tm K => g tm fun v => h tm fun l => K ((x.1, v) :: l)) l
theorem cPs_p {β : Type} {P : β → Prop} {d : Bx β} (hd : BxP P d) : ∀ {l : List (Nat × Operand)} {F : Rps → Bx β}, (∀ g : Rps, (∀ tm K, evpK l tm K = g tm K) → BxP P (F g)) → BxP P (cPs d l F) := by
  intro l
  induction l with
  | nil => intro F hF; exact hF _ fun tm K => rfl
  | cons x l ih =>
    intro F hF
    show BxP P (cOK d x.2 fun g => cPs d l fun h => F fun tm K => g tm fun v => h tm fun l => K ((x.1, v) :: l))
    refine cOK_p hd fun g hg => ih fun h hh => hF _ fun tm K => ?_
    show evK x.2 tm (fun v => evpK l tm fun l => K ((x.1, v) :: l)) = _
    rw [hg]
    exact congrArg (g tm) (funext fun v => hh tm _)
abbrev Rdo := Tm → (Option SV → Bool) → Bool
def cOp? {β : Type} (d : Bx β) (x : Option Operand) (F : Rdo → Bx β) : Bx β := Option.rec (motive := fun _ => Bx β) (F fun _ K => K none) (fun x => cOK d x fun g => F fun tm K => g tm fun v => K (some v)) x
theorem cOp?_p {β : Type} {P : β → Prop} {d : Bx β} (hd : BxP P d) {x : Option Operand} {F : Rdo → Bx β} (hF : ∀ g : Rdo, (∀ tm K, evoK x tm K = g tm K) → BxP P (F g)) : BxP P (cOp? d x F) := by
  cases x with
  | none => exact hF _ fun tm K => rfl
  | some x =>
    show BxP P (cOK d x fun g => F fun tm K => g tm fun v => K (some v))
    refine cOK_p hd fun g hg => hF _ fun tm K => ?_
    show evK x tm (fun v => K (some v)) = _
    rw [hg]
/-! Operations -/
/-- What an operation comes to: a value, or a call. -/
def OpSem (ρ : Nat → Nat) (E : Env) (o : Oper) (tr : Tr Value) (t : HT) (m : Nat) (K : KV) : Prop :=
  OpV ρ E tr o t m K ∨ ∃ g a, aop E.P E.T tr o (instH ρ t m) = some (.enter g a, instH ρ t m) ∧ ∀ R : Value → Heap → Prop, (∀ v t' m', K v t' m' = true → R (v.inst ρ) (instH ρ t' m')) → ACall E.P E.T g a (instH ρ t m) R
def OpOk (ρ : Nat → Nat) (E : Env) (o : Oper) (f : OpF) : Prop := ∀ cf, CfOk ρ E cf → ∀ tm tr, TRel ρ tm tr → ∀ t m K, f cf tm t m K = true → OpSem ρ E o tr t m K
def dOp : Bx OpF := .mk fun _ _ _ _ _ => false
theorem dOp_ok (ρ : Nat → Nat) (E : Env) (o : Oper) : BxP (OpOk ρ E o) dOp := ⟨_, rfl, fun cf _ tm tr _ t m K h => by cases h⟩
def cCall (E : Env) (f : Operand) (args : List Operand) : Bx OpF := match f with
  | .func g => Bool.rec (motive := fun _ => Bx OpF) dOp (cAs dOp args fun ga => .mk fun cf tm t m K => ga tm fun l => cf g l t m K) (E.T.can g).isSome
  | f => cOK dOp f fun gf => cAs dOp args fun ga => .mk fun cf tm t m K => gf tm fun v => fnK v fun g fs cs => ga tm fun l => catK fs l fun l => catK l cs fun l => ifK (E.T.can g).isSome (cf g l t m K) false
theorem cCall_ok {ρ : Nat → Nat} {E : Env} {o : Oper} {f : Operand} {args : List Operand} (hv : isVal o.op = some (f, args)) : BxP (OpOk ρ E o) (cCall E f args) := by
  unfold cCall
  split
  · rename_i g
    cases hg : (E.T.can g).isSome
    · exact dOp_ok ρ E o
    · refine cAs_p (dOp_ok ρ E o) fun ga hga => ⟨_, rfl, fun cf hcf tm tr hT t m K h => .inr (callK_true hcf hT hv (t := t) (m := m) (K := K) ?_)⟩
      show (evsK args tm fun l => catK [] l fun l => catK l [] fun l => ifK (E.T.can g).isSome (cf g l t m K) false) = true
      rw [hga, show (fun l => catK [] l fun l => catK l [] fun l => ifK (E.T.can g).isSome (cf g l t m K) false) = fun l => cf g l t m K from funext fun l => by rw [catK_eq, catK_eq, hg, List.append_nil, List.nil_append]; rfl]
      exact h
  · refine cOK_p (dOp_ok ρ E o) fun gf hgf => cAs_p (dOp_ok ρ E o) fun ga hga => ⟨_, rfl, fun cf hcf tm tr hT t m K h => .inr (callK_true hcf hT hv (t := t) (m := m) (K := K) ?_)⟩
    unfold callK
    rw [hgf]
    simp only [hga]
    exact h
def cOp (E : Env) (o : Oper) : Bx OpF := match o.op with
  | .move x => cOK dOp x fun g => .mk fun _ tm t m K => g tm fun v => K v t m
  | .assign x => cOK dOp x fun g => .mk fun _ tm t m K => g tm fun v => K v t m
  | .pick c a b => cOK dOp c fun gc => cOK dOp a fun ga => cOK dOp b fun gb => .mk fun _ tm t m K => gc tm fun c => ga tm fun u => gb tm fun v => pickJ c u v fun s => K s t m
  | .box e x => cOK dOp x fun g => .mk fun _ tm t m K => g tm fun v => boxK v fun c => pushK ⟨c, e, false⟩ (.p m 0) t m K
  | .build ty ps => cPs dOp ps.toList fun g => .mk fun _ tm t m K => g tm fun l => bldK E ty l fun s => K s t m
  | .buildSlice ty n ps => cPs dOp ps.toList fun g => .mk fun _ tm t m K => g tm fun l => bsJ E ty n l t m K
  | .load ty a => cOK dOp a fun g => .mk fun _ tm t m K => g tm fun v => ldK E.T ty v t fun u => K u t m
  | .store ty a x => cOK dOp a fun g => cOK dOp x fun h => .mk fun _ tm t m K => g tm fun v => h tm fun u => stK E.T ty v u t fun t => K .u t m
  | .nilCheck x => cOK dOp x fun g => .mk fun _ tm t m K => g tm fun v => nilcK v (K v t m)
  | .binOp op ty x y _ => cOK dOp x fun g => cOK dOp y fun h => .mk fun _ tm t m K => g tm fun u => h tm fun v => binJ E op ty u v fun s => K s t m
  | .unOp .not _ x => cOK dOp x fun g => .mk fun _ tm t m K => g tm fun v => notJ v fun s => K s t m
  | .convert s d x => cOK dOp x fun g => .mk fun _ tm t m K => g tm fun v => convK E.T s d v t fun u => K u t m
  | .makeSlice ty l c => cOK dOp l fun g => cOK dOp c fun h => .mk fun _ tm t m K => g tm fun u => h tm fun v => msJ E ty u v t m K
  | .slice ty x lo hi none => cOK dOp x fun g => cOp? dOp lo fun gl => cOp? dOp hi fun gh => .mk fun _ tm t m K => g tm fun v => gl tm fun l => gh tm fun r => slK E.T ty v l r fun s => K s t m
  | .fieldAddr s x f => cOK dOp x fun g => .mk fun _ tm t m K => g tm fun v => faJ E s f v fun u => K u t m
  | .field ty x f => cOK dOp x fun g => .mk fun _ tm t m K => g tm fun v => fdJ E ty f v fun u => K u t m
  | .indexAddr ty x i => cOK dOp x fun g => cOK dOp i fun h => .mk fun _ tm t m K => g tm fun u => h tm fun v => iaJ E ty u v fun s => K s t m
  | .index ty x i => cOK dOp x fun g => cOK dOp i fun h => .mk fun _ tm t m K => g tm fun u => h tm fun v => ixJ E ty u v fun s => K s t m
  | .extract x i => cOK dOp x fun g => .mk fun _ tm t m K => g tm fun v => exJ i v fun u => K u t m
  | .call c => (match c.callee with
    | .value f => cCall E f c.args.toList
    | .builtin .len => cAs dOp c.args.toList fun g => .mk fun _ tm t m K => g tm fun l => lenJ E c.argTypes.toList l t m K
    | .builtin .append => cAs dOp c.args.toList fun g => .mk fun _ tm t m K => g tm fun l => bltK E .append c.argTypes.toList l t m K
    | .builtin .copy => cAs dOp c.args.toList fun g => .mk fun _ tm t m K => g tm fun l => bltK E .copy c.argTypes.toList l t m K
    | _ => .mk fun _ tm t m K => hBltM c E tm o t m K)
  | op => .mk fun _ tm t m K => sOp op E tm o t m K
theorem hd_sem {ρ : Nat → Nat} {E : Env} {o : Oper} {h : Hd} {op : Op} (hh : HdOk ρ E op h) (ho : o.op = op) {tm : Tm} {tr : Tr Value} (hT : TRel ρ tm tr) {t : HT} {m : Nat} {K : KV} (hk : h E tm o t m K = true) : OpSem ρ E o tr t m K := .inl (hh tm tr hT o t m K ho hk)
theorem cOp_ok {ρ : Nat → Nat} {E : Env} (hE : EnvOk ρ E) (o : Oper) : BxP (OpOk ρ E o) (cOp E o) := by
  have hd := dOp_ok ρ E o
  unfold cOp
  split
  · rename_i x ho
    exact cOK_p hd fun g hg => ⟨_, rfl, fun cf hcf tm tr hT t m K h => hd_sem (hMove_ok ρ E x) ho hT (show hMove x E tm o t m K = true from by unfold hMove; rw [hg]; exact h)⟩
  · rename_i x ho
    exact cOK_p hd fun g hg => ⟨_, rfl, fun cf hcf tm tr hT t m K h => hd_sem (hAssign_ok ρ E x) ho hT (show hMove x E tm o t m K = true from by unfold hMove; rw [hg]; exact h)⟩
  · rename_i c a b ho
    exact cOK_p hd fun g hg => cOK_p hd fun g2 hg2 => cOK_p hd fun g3 hg3 => ⟨_, rfl, fun cf hcf tm tr hT t m K h => hd_sem (hPick_ok ρ E c a b) ho hT (by unfold hPick; simp only [hg, hg2, hg3]; exact h)⟩
  · rename_i e x ho
    exact cOK_p hd fun g hg => ⟨_, rfl, fun cf hcf tm tr hT t m K h => hd_sem (hBox_ok ρ E e x) ho hT (by unfold hBox; rw [hg]; exact h)⟩
  · rename_i ty ps ho
    exact cPs_p hd fun g hg => ⟨_, rfl, fun cf hcf tm tr hT t m K h => hd_sem (hBuild_ok hE ty ps) ho hT (by unfold hBuild; rw [hg]; exact h)⟩
  · rename_i ty n ps ho
    exact cPs_p hd fun g hg => ⟨_, rfl, fun cf hcf tm tr hT t m K h => hd_sem (hBuildSlice_ok hE ty n ps) ho hT (by unfold hBuildSlice; rw [hg]; exact h)⟩
  · rename_i ty a ho
    exact cOK_p hd fun g hg => ⟨_, rfl, fun cf hcf tm tr hT t m K h => hd_sem (hLoad_ok ρ E ty a) ho hT (by unfold hLoad; rw [hg]; exact h)⟩
  · rename_i ty a x ho
    exact cOK_p hd fun g hg => cOK_p hd fun g2 hg2 => ⟨_, rfl, fun cf hcf tm tr hT t m K h => hd_sem (hStore_ok ρ E ty a x) ho hT (by unfold hStore; simp only [hg, hg2]; exact h)⟩
  · rename_i x ho
    exact cOK_p hd fun g hg => ⟨_, rfl, fun cf hcf tm tr hT t m K h => hd_sem (hNil_ok ρ E x) ho hT (by unfold hNil; rw [hg]; exact h)⟩
  · rename_i op ty x y t2 ho
    exact cOK_p hd fun g hg => cOK_p hd fun g2 hg2 => ⟨_, rfl, fun cf hcf tm tr hT t m K h => hd_sem (hBin_ok hE op ty t2 x y) ho hT (by unfold hBin; simp only [hg, hg2]; exact h)⟩
  · rename_i ty x ho
    exact cOK_p hd fun g hg => ⟨_, rfl, fun cf hcf tm tr hT t m K h => hd_sem (hNot_ok ρ E ty x) ho hT (by unfold hNot; rw [hg]; exact h)⟩
  · rename_i s d x ho
    exact cOK_p hd fun g hg => ⟨_, rfl, fun cf hcf tm tr hT t m K h => hd_sem (hConvert_ok ρ E s d x) ho hT (by unfold hConvert; rw [hg]; exact h)⟩
  · rename_i ty l c ho
    exact cOK_p hd fun g hg => cOK_p hd fun g2 hg2 => ⟨_, rfl, fun cf hcf tm tr hT t m K h => hd_sem (hMakeSlice_ok hE ty l c) ho hT (by unfold hMakeSlice; simp only [hg, hg2]; exact h)⟩
  · rename_i ty x lo hi ho
    exact cOK_p hd fun g hg => cOp?_p hd fun g2 hg2 => cOp?_p hd fun g3 hg3 => ⟨_, rfl, fun cf hcf tm tr hT t m K h => hd_sem (hSlice_ok ρ E ty x lo hi none) ho hT (by unfold hSlice; simp only [hg, hg2, hg3]; exact h)⟩
  · rename_i s x f ho
    exact cOK_p hd fun g hg => ⟨_, rfl, fun cf hcf tm tr hT t m K h => hd_sem (hFieldAddr_ok ρ E s x f) ho hT (by unfold hFieldAddr; rw [hg]; exact h)⟩
  · rename_i ty x f ho
    exact cOK_p hd fun g hg => ⟨_, rfl, fun cf hcf tm tr hT t m K h => hd_sem (hField_ok ρ E ty x f) ho hT (by unfold hField; rw [hg]; exact h)⟩
  · rename_i ty x i ho
    exact cOK_p hd fun g hg => cOK_p hd fun g2 hg2 => ⟨_, rfl, fun cf hcf tm tr hT t m K h => hd_sem (hIndexAddr_ok ρ E ty x i) ho hT (by unfold hIndexAddr; simp only [hg, hg2]; exact h)⟩
  · rename_i ty x i ho
    exact cOK_p hd fun g hg => cOK_p hd fun g2 hg2 => ⟨_, rfl, fun cf hcf tm tr hT t m K h => hd_sem (hIndex_ok ρ E ty x i) ho hT (by unfold hIndex; simp only [hg, hg2]; exact h)⟩
  · rename_i x i ho
    exact cOK_p hd fun g hg => ⟨_, rfl, fun cf hcf tm tr hT t m K h => hd_sem (hExtract_ok ρ E x i) ho hT (by unfold hExtract; rw [hg]; exact h)⟩
  · rename_i c ho
    split
    · rename_i f hf
      refine cCall_ok ?_
      rw [ho]; unfold isVal; simp only [hf]
    · rename_i hb
      exact cAs_p hd fun g hg => ⟨_, rfl, fun cf hcf tm tr hT t m K h => hd_sem (hBltM_ok hE c) ho hT (by unfold hBltM; simp only [hb]; unfold hLen; rw [hg]; exact h)⟩
    · rename_i hb
      exact cAs_p hd fun g hg => ⟨_, rfl, fun cf hcf tm tr hT t m K h => hd_sem (hBltM_ok hE c) ho hT (by unfold hBltM; simp only [hb]; unfold hBlt; simp only [hb]; rw [hg]; exact h)⟩
    · rename_i hb
      exact cAs_p hd fun g hg => ⟨_, rfl, fun cf hcf tm tr hT t m K h => hd_sem (hBltM_ok hE c) ho hT (by unfold hBltM; simp only [hb]; unfold hBlt; simp only [hb]; rw [hg]; exact h)⟩
    · exact ⟨_, rfl, fun cf hcf tm tr hT t m K h => hd_sem (hBltM_ok hE c) ho hT h⟩
  · exact ⟨_, rfl, fun cf hcf tm tr hT t m K h => .inl (sOp_ok hE _ tm tr hT o t m K rfl h)⟩
/-! Steps -/
def dR : Bx RegF := .mk fun _ _ _ _ _ => false
def RegOk (ρ : Nat → Nat) (E : Env) (n : Nat) (ops : Array Oper) (l : List Oper) (f : RegF) : Prop := ∀ cf, CfOk ρ E cf → ∀ tm t m (K : KS) (Q : St → Prop), f cf tm t m K = true → (∀ tm t m s, K tm t m = true → SRel ρ tm t m s → Q s) → ∀ s, SRel ρ tm t m s → AOps E.P E.T n ops l Q s
def StOk (ρ : Nat → Nat) (E : Env) (n : Nat) (ops : Array Oper) (o : Oper) (f : RegF) : Prop := ∀ cf, CfOk ρ E cf → ∀ tm t m (K : KS) (Q : St → Prop), f cf tm t m K = true → (∀ tm t m s, K tm t m = true → SRel ρ tm t m s → Q s) → ∀ s, SRel ρ tm t m s → AStep E.P E.T n ops o Q s
abbrev PutF := SV → Tm → (Tm → Bool) → Bool
def cDst {β : Type} (d : Bx β) (n : Nat) (dst : Option Tmp) (F : PutF → Bx β) : Bx β := Option.rec (motive := fun _ => Bx β) (F fun _ tm K => K tm) (fun i => Bool.rec (motive := fun _ => Bx β) d (Bool.rec (motive := fun _ => Bx β) d (Bx.rec (motive := fun _ => Bx β) F (wrG i 3)) (Nat.ble (Nat.succ i) 512)) (Nat.blt i n)) dst
theorem cDst_p {β : Type} {P : β → Prop} {d : Bx β} (hd : BxP P d) {n : Nat} {dst : Option Tmp} {F : PutF → Bx β} (hF : ∀ p : PutF, (∀ v tm t m (K : KS), finK n dst v tm t m K = p v tm fun tm => K tm t m) → BxP P (F p)) : BxP P (cDst d n dst F) := by
  cases dst with
  | none => exact hF _ fun v tm t m K => rfl
  | some i =>
    unfold cDst
    cases h1 : Nat.blt i n
    · simp only [h1]; exact hd
    · cases h2 : Nat.ble (Nat.succ i) 512
      · simp only [h1, h2]; exact hd
      · obtain ⟨f, hf, _⟩ := wrG_ok i 3
        simp only [h1, h2, hf]
        refine hF _ fun v tm t m K => ?_
        show ifK (Nat.blt i n) (ifK (Nat.ble (Nat.succ i) 512) (Bx.rec (motive := fun _ => Bool) (fun g => g v tm fun tm => K tm t m) (wrG i 3)) false) false = _
        rw [h1, h2, hf]; rfl
def cFlag {β : Type} (d : Bx β) (ops : Array Oper) (i : Nat) (F : Rd → Bx β) : Bx β := Option.rec (motive := fun _ => Bx β) d (fun j => Bool.rec (motive := fun _ => Bx β) d (Bx.rec (motive := fun _ => Bx β) F (rdG j 3)) (Nat.ble (Nat.succ j) 512)) ((ops[i]?).bind (·.dst))
theorem cFlag_p {β : Type} {P : β → Prop} {d : Bx β} (hd : BxP P d) {ops : Array Oper} {i : Nat} {F : Rd → Bx β} (hF : ∀ g : Rd, (∀ tm K, (bnd ((ops[i]?).bind (·.dst)) fun d => gT d tm K) = g tm K) → BxP P (F g)) : BxP P (cFlag d ops i F) := by
  unfold cFlag
  cases hj : (ops[i]?).bind (·.dst) with
  | none => simp only; exact hd
  | some j =>
    cases hb : Nat.ble (Nat.succ j) 512
    · simp only [hb]; exact hd
    · obtain ⟨f, hf, _⟩ := rdG_ok j 3
      simp only [hb, hf]
      refine hF _ fun tm K => ?_
      rw [hj]
      show ifK (Nat.ble (Nat.succ j) 512) (Bx.rec (motive := fun _ => Bool) (fun g => g tm K) (rdG j 3)) false = _
      rw [hb, hf]; rfl
def cStep (E : Env) (n : Nat) (ops : Array Oper) (o : Oper) : Bx RegF := Bx.rec (motive := fun _ => Bx RegF) (fun f => cDst dR n o.dst fun p => Option.rec (motive := fun _ => Bx RegF)
  (.mk fun cf tm t m K => f cf tm t m fun v t m => p v tm fun tm => K tm t m)
  (fun q => Prod.rec (motive := fun _ => Bx RegF) (fun i w => cFlag dR ops i fun g => .mk fun cf tm t m K => g tm fun x => guardJ x w (fun J => f cf tm t m J) (fun v t m => p v tm fun tm => K tm t m) t m) q) o.guard) (cOp E o)
theorem dR_st (ρ : Nat → Nat) (E : Env) (n : Nat) (ops : Array Oper) (o : Oper) : BxP (StOk ρ E n ops o) dR := ⟨_, rfl, fun cf _ tm t m K Q h => by cases h⟩
theorem astep_of {ρ : Nat → Nat} {E : Env} {n : Nat} {ops : Array Oper} {o : Oper} {tm : Tm} {tr : Tr Value} (hT : TRel ρ tm tr) {t : HT} {m : Nat} {K : KS} {Q : St → Prop} (hQ : ∀ tm t m s, K tm t m = true → SRel ρ tm t m s → Q s)
    (h : (awanted ops tr o = true ∧ OpSem ρ E o tr t m fun v t m => finK n o.dst v tm t m K) ∨ (awanted ops tr o = false ∧ finK n o.dst .u tm t m K = true)) : AStep E.P E.T n ops o Q ⟨tr, instH ρ t m⟩ := by
  unfold AStep
  rcases h with ⟨h1, h⟩ | ⟨h1, h⟩
  · simp only [h1, cond_true]
    rcases h with ⟨v, t', n', h2, h⟩ | ⟨g, a, h2, h3⟩
    · rcases h2 with h2 | ⟨rfl, h2⟩
      · rw [h2]; exact finK_true hT h hQ
      · rw [h2]; exact finK_true hT (v := .u) h hQ
    · rw [h2]
      exact h3 _ fun v t' m' hk => finK_true hT hk hQ
  · simp only [h1, cond_false]
    exact finK_true hT (v := .u) h hQ
theorem cStep_ok {ρ : Nat → Nat} {E : Env} (hE : EnvOk ρ E) (n : Nat) (ops : Array Oper) (o : Oper) : BxP (StOk ρ E n ops o) (cStep E n ops o) := by
  obtain ⟨f, hb, hf⟩ := cOp_ok hE o
  unfold cStep
  rw [hb]
  refine cDst_p (dR_st ρ E n ops o) fun p hp => ?_
  cases hg : o.guard with
  | none =>
    refine ⟨_, rfl, fun cf hcf tm t m K Q h hQ s hs => ?_⟩
    obtain ⟨tr, H⟩ := s
    obtain ⟨hT, hH⟩ := hs
    simp only at hT hH
    subst hH
    refine astep_of hT hQ (.inl ⟨by unfold awanted; rw [hg], ?_⟩)
    refine hf cf hcf tm tr hT t m _ ?_
    simp only [hp]
    exact h
  | some q =>
    obtain ⟨i, w⟩ := q
    refine cFlag_p (dR_st ρ E n ops o) fun g hg2 => ⟨_, rfl, fun cf hcf tm t m K Q h hQ s hs => ?_⟩
    obtain ⟨tr, H⟩ := s
    obtain ⟨hT, hH⟩ := hs
    simp only at hT hH
    subst hH
    have hw := wantJ_true (ops := ops) (tm := tm) hT (o := o) (F := fun J => f cf tm t m J) (J := fun v t m => p v tm fun tm => K tm t m) (t := t) (m := m) (by
      unfold wantJ
      rw [hg]
      show (bnd ((ops[i]?).bind (·.dst)) fun d => gT d tm fun v => guardJ v w _ _ t m) = true
      rw [hg2]
      exact h)
    refine astep_of hT hQ ?_
    rcases hw with ⟨h1, h2⟩ | ⟨h1, h2⟩
    · exact .inl ⟨h1, hf cf hcf tm tr hT t m _ (by simp only [hp]; exact h2)⟩
    · exact .inr ⟨h1, by rw [hp]; exact h2⟩
def cOps (E : Env) (n : Nat) (ops : Array Oper) (l : List Oper) : Bx RegF := List.rec (motive := fun _ => Bx RegF) (.mk fun _ tm t m K => K tm t m) (fun o _ ih => Bx.rec (motive := fun _ => Bx RegF) (fun f => Bx.rec (motive := fun _ => Bx RegF) (fun g => .mk fun cf tm t m K => f cf tm t m fun tm t m => g cf tm t m K) ih) (cStep E n ops o)) l
theorem cOps_ok {ρ : Nat → Nat} {E : Env} (hE : EnvOk ρ E) (n : Nat) (ops : Array Oper) : ∀ l : List Oper, BxP (RegOk ρ E n ops l) (cOps E n ops l) := by
  intro l
  induction l with
  | nil => exact ⟨_, rfl, fun cf _ tm t m K Q h hQ s hs => aops_nil (hQ _ _ _ _ h hs)⟩
  | cons o l ih =>
    obtain ⟨f, hb, hf⟩ := cStep_ok hE n ops o
    obtain ⟨g, hc, hg⟩ := ih
    have e : cOps E n ops (o :: l) = .mk fun cf tm t m K => f cf tm t m fun tm t m => g cf tm t m K := by
      show (Bx.rec (motive := fun _ => Bx RegF) (fun f => Bx.rec (motive := fun _ => Bx RegF) (fun g => .mk fun cf tm t m K => f cf tm t m fun tm t m => g cf tm t m K) (cOps E n ops l)) (cStep E n ops o)) = _
      rw [hb, hc]
    refine ⟨_, e, fun cf hcf tm t m K Q h hQ s hs => ?_⟩
    exact aops_cons (hf cf hcf tm t m _ _ h (fun tm t m s hk hs => hg cf hcf tm t m K Q hk hQ s hs) s hs)
/-- A region; where its loads may stand elsewhere it is run as it lies. -/
def cReg (E : Env) (n : Nat) (ops : Array Oper) (draw : Bool) : Bx RegF := Bool.rec (motive := fun _ => Bx RegF) (cOps E n ops ops.toList)
  (List.rec (motive := fun _ => Bx RegF) (cOps E n ops ops.toList) (fun _ _ _ => .mk fun cf tm t m K => regK E n cf ops true tm t m K) (loose E.T ops)) draw
def RgOk (ρ : Nat → Nat) (E : Env) (n : Nat) (ops : Array Oper) (draw : Bool) (f : RegF) : Prop := ∀ cf, CfOk ρ E cf → ∀ id tm t m (K : KS) (Q : Xt → St → Prop), f cf tm t m K = true → (∀ tm t m s, K tm t m = true → SRel ρ tm t m s → Q .normal s) → ∀ s, SRel ρ tm t m s → Aw E.P E.T n (.region id ops draw) Q s
theorem cReg_ok {ρ : Nat → Nat} {E : Env} (hE : EnvOk ρ E) (n : Nat) (ops : Array Oper) (draw : Bool) : BxP (RgOk ρ E n ops draw) (cReg E n ops draw) := by
  cases draw
  · obtain ⟨f, h1, h2⟩ := cOps_ok hE n ops ops.toList
    exact ⟨f, h1, fun cf hcf id tm t m K Q h hQ s hs => aw_region (h2 cf hcf tm t m K _ h hQ s hs)⟩
  · unfold cReg
    cases hl : loose E.T ops with
    | nil =>
      simp only [hl]
      obtain ⟨f, h1, h2⟩ := cOps_ok hE n ops ops.toList
      refine ⟨f, h1, fun cf hcf id tm t m K Q h hQ s hs => ?_⟩
      obtain ⟨l⟩ := ops
      exact aw_draw0 hl (h2 cf hcf tm t m K _ h hQ s hs)
    | cons p ps =>
      simp only [hl]
      exact ⟨_, rfl, fun cf hcf id tm t m K Q h hQ s hs => regK_true hE hcf h hQ hs⟩
/-! Code -/
def dC : Bx CX := .mk fun _ _ _ _ _ => false
/-- The code in a box is run. -/
def goC (b : Bx CX) : CX := fun cf tm t m K => Bx.rec (motive := fun _ => Bool) (fun g => g cf tm t m K) b
def loopK (F : Tm → HT → Nat → KX → Bool) (k : Nat) : Tm → HT → Nat → KX → Bool := Nat.rec (motive := fun _ => Tm → HT → Nat → KX → Bool) (fun _ _ _ _ => false) (fun _ ih tm t m K => F tm t m fun x tm t m => Xt.rec (motive := fun _ => Bool) (ih tm t m K) (K .ret tm t m) (fun i => K (.exit i) tm t m) x) k
def cCode (E : Env) (n : Nat) (c : Code) : Bx CX := Code.rec (motive := fun _ => Bx CX)
  (.mk fun _ tm t m K => K .normal tm t m)
  (fun _ ops draw => Bx.rec (motive := fun _ => Bx CX) (fun f => .mk fun cf tm t m K => f cf tm t m fun tm t m => K .normal tm t m) (cReg E n ops draw))
  (fun _ _ a b => Bx.rec (motive := fun _ => Bx CX) (fun f => .mk fun cf tm t m K => f cf tm t m fun x tm t m => Xt.rec (motive := fun _ => Bool) (goC b cf tm t m K) (K .ret tm t m) (fun i => K (.exit i) tm t m) x) a)
  (fun x _ _ a b => cOK dC x fun g => .mk fun cf tm t m K => g tm fun v => truK v (goC a cf tm t m K) (goC b cf tm t m K))
  (fun id _ a => .mk fun cf tm t m K => goC a cf tm t m fun x tm t m => Xt.rec (motive := fun _ => Bool) (K .normal tm t m) (K .ret tm t m) (fun i => ifK (Nat.beq i id) (K .normal tm t m) (K (.exit i) tm t m)) x)
  (fun _ a => .mk fun cf tm t m K => loopK (fun tm t m K => goC a cf tm t m K) 1000000 tm t m K)
  (fun _ _ _ _ _ _ => dC)
  (fun i => .mk fun _ tm t m K => K (.exit i) tm t m)
  (fun _ a => a)
  (fun _ => .mk fun _ tm t m K => K .normal tm t m)
  (fun _ => dC)
  (.mk fun _ tm t m K => K .ret tm t m)
  (fun _ => dC) c
def COk (ρ : Nat → Nat) (E : Env) (n : Nat) (c : Code) (f : CX) : Prop := ∀ cf, CfOk ρ E cf → ∀ tm t m (K : KX) (Q : Xt → St → Prop), f cf tm t m K = true → (∀ x tm t m s, K x tm t m = true → SRel ρ tm t m s → Q x s) → ∀ s, SRel ρ tm t m s → Aw E.P E.T n c Q s
theorem goC_ok {ρ : Nat → Nat} {E : Env} {n : Nat} {c : Code} {b : Bx CX} (h : BxP (COk ρ E n c) b) : COk ρ E n c (goC b) := by
  obtain ⟨f, rfl, hf⟩ := h
  exact hf
theorem dC_ok (ρ : Nat → Nat) (E : Env) (n : Nat) (c : Code) : BxP (COk ρ E n c) dC := ⟨_, rfl, fun cf _ tm t m K Q h => by cases h⟩
theorem loopK_ok {ρ : Nat → Nat} {E : Env} {n : Nat} {c : Code} {F : Tm → HT → Nat → KX → Bool} (hF : ∀ tm t m (K : KX) (Q : Xt → St → Prop), F tm t m K = true → (∀ x tm t m s, K x tm t m = true → SRel ρ tm t m s → Q x s) → ∀ s, SRel ρ tm t m s → Aw E.P E.T n c Q s) :
    ∀ (k : Nat) tm t m (K : KX) (Q : Xt → St → Prop), loopK F k tm t m K = true → (∀ x tm t m s, K x tm t m = true → SRel ρ tm t m s → Q x s) → ∀ s, SRel ρ tm t m s → Aw E.P E.T n (.loop c) Q s := by
  intro k
  induction k with
  | zero => intro tm t m K Q h; cases h
  | succ k ih =>
    intro tm t m K Q h hQ s hs
    refine aw_loop_once (hF tm t m _ _ h (fun x tm t m s hk hs => ?_) s hs)
    cases x with
    | normal => exact then_normal (ih tm t m K Q hk hQ s hs)
    | ret => exact then_ret (hQ _ _ _ _ _ hk hs)
    | exit i => exact then_exit (hQ _ _ _ _ _ hk hs)
theorem cCode_ok {ρ : Nat → Nat} {E : Env} (hE : EnvOk ρ E) (n : Nat) : ∀ c : Code, BxP (COk ρ E n c) (cCode E n c) := by
  intro c
  induction c with
  | skip => exact ⟨_, rfl, fun cf _ tm t m K Q h hQ s hs => aw_skip (hQ _ _ _ _ _ h hs)⟩
  | region id ops draw =>
    obtain ⟨f, hb, hf⟩ := cReg_ok hE n ops draw
    have e : cCode E n (.region id ops draw) = .mk fun cf tm t m K => f cf tm t m fun tm t m => K .normal tm t m := by
      show (Bx.rec (motive := fun _ => Bx CX) (fun f => .mk fun cf tm t m K => f cf tm t m fun tm t m => K .normal tm t m) (cReg E n ops draw)) = _
      rw [hb]
    refine ⟨_, e, fun cf hcf tm t m K Q h hQ s hs => ?_⟩
    exact hf cf hcf id tm t m _ Q h (fun tm t m s hk hs => hQ _ _ _ _ _ hk hs) s hs
  | seq a b iha ihb =>
    obtain ⟨f, hb, hf⟩ := iha
    have e : cCode E n (.seq a b) = .mk fun cf tm t m K => f cf tm t m fun x tm t m => Xt.rec (motive := fun _ => Bool) (goC (cCode E n b) cf tm t m K) (K .ret tm t m) (fun i => K (.exit i) tm t m) x := by
      show (Bx.rec (motive := fun _ => Bx CX) (fun f => .mk fun cf tm t m K => f cf tm t m fun x tm t m => Xt.rec (motive := fun _ => Bool) (goC (cCode E n b) cf tm t m K) (K .ret tm t m) (fun i => K (.exit i) tm t m) x) (cCode E n a)) = _
      rw [hb]
    refine ⟨_, e, fun cf hcf tm t m K Q h hQ s hs => ?_⟩
    refine aw_seq (hf cf hcf tm t m _ _ h (fun x tm t m s hk hs => ?_) s hs)
    cases x with
    | normal => exact then_normal (goC_ok ihb cf hcf tm t m K Q hk hQ s hs)
    | ret => exact then_ret (hQ _ _ _ _ _ hk hs)
    | exit i => exact then_exit (hQ _ _ _ _ _ hk hs)
  | cond x a b iha ihb =>
    show BxP _ (cOK dC x fun g => .mk fun cf tm t m K => g tm fun v => truK v (goC (cCode E n a) cf tm t m K) (goC (cCode E n b) cf tm t m K))
    refine cOK_p (dC_ok ρ E n _) fun g hg => ⟨_, rfl, fun cf hcf tm t m K Q h hQ s hs => ?_⟩
    obtain ⟨v, h1, h⟩ := evK_true hs.tm (K := fun v => truK v (goC (cCode E n a) cf tm t m K) (goC (cCode E n b) cf tm t m K)) (x := x) (by rw [hg]; exact h)
    rcases truK_true h with ⟨rfl, h⟩ | ⟨rfl, h⟩
    · exact aw_cond (t := true) h1 (goC_ok iha cf hcf tm t m K Q h hQ s hs)
    · exact aw_cond (t := false) h1 (goC_ok ihb cf hcf tm t m K Q h hQ s hs)
  | block id a iha =>
    refine ⟨_, rfl, fun cf hcf tm t m K Q h hQ s hs => ?_⟩
    refine aw_block (goC_ok iha cf hcf tm t m _ _ h (fun x tm t m s hk hs => ?_) s hs)
    cases x with
    | normal => exact blk_normal (hQ _ _ _ _ _ hk hs)
    | ret => exact blk_ret (hQ _ _ _ _ _ hk hs)
    | exit i =>
      rcases ifK_true hk with ⟨h1, hk'⟩ | ⟨h1, hk'⟩
      · obtain rfl := Nat.eq_of_beq_eq_true h1
        exact blk_hit (hQ _ _ _ _ _ hk' hs)
      · exact blk_miss h1 (hQ _ _ _ _ _ hk' hs)
  | loop a iha =>
    exact ⟨_, rfl, fun cf hcf tm t m K Q h hQ s hs => loopK_ok (fun tm t m K Q h hQ s hs => goC_ok iha cf hcf tm t m K Q h hQ s hs) _ tm t m K Q h hQ s hs⟩
  | rangeFunc f ps a b _ _ => exact dC_ok ρ E n _
  | exit i => exact ⟨_, rfl, fun cf _ tm t m K Q h hQ s hs => aw_exit (hQ _ _ _ _ _ h hs)⟩
  | scope a iha =>
    obtain ⟨f, h1, h2⟩ := iha
    exact ⟨f, h1, fun cf hcf tm t m K Q h hQ s hs => aw_scope (h2 cf hcf tm t m K Q h hQ s hs)⟩
  | label l => exact ⟨_, rfl, fun cf _ tm t m K Q h hQ s hs => aw_label (hQ _ _ _ _ _ h hs)⟩
  | goto l => exact dC_ok ρ E n _
  | ret => exact ⟨_, rfl, fun cf _ tm t m K Q h hQ s hs => aw_ret (hQ _ _ _ _ _ h hs)⟩
  | refuse w => exact dC_ok ρ E n _
/-! Calls -/
abbrev FnF := Cf → List SV → HT → Nat → KV → Bool
def dF : Bx FnF := .mk fun _ _ _ _ _ => false
/-- The slots at a call's beginning. -/
def argL (n : Nat) (l : List SV) (K : Tm → Bool) : Bool := cntK l 0 fun k => ifK (Nat.ble k n) (initK l 0 e3 K) false
def sm (a0 a1 a2 a3 a4 a5 a6 a7 : SV) (K : Tm → Bool) : Bool := K fun F => F (fun F => F (fun F => F a0 a1 a2 a3 a4 a5 a6 a7) e1 e1 e1 e1 e1 e1 e1) e2 e2 e2 e2 e2 e2 e2
theorem sm_eq (a0 a1 a2 a3 a4 a5 a6 a7 : SV) (K : Tm → Bool) : sm a0 a1 a2 a3 a4 a5 a6 a7 K = K (enc 3 (s3d (.mk a0 a1 a2 a3 a4 a5 a6 a7))) := rfl
def argK (n : Nat) (l : List SV) (K : Tm → Bool) : Bool := List.rec (motive := fun _ => Bool) (K e3) (fun a0 r _ => List.rec (motive := fun _ => Bool) (ifK (Nat.ble 1 n) (sm a0 .u .u .u .u .u .u .u K) false) (fun a1 r _ => List.rec (motive := fun _ => Bool) (ifK (Nat.ble 2 n) (sm a0 a1 .u .u .u .u .u .u K) false) (fun a2 r _ => List.rec (motive := fun _ => Bool) (ifK (Nat.ble 3 n) (sm a0 a1 a2 .u .u .u .u .u K) false) (fun a3 r _ => List.rec (motive := fun _ => Bool) (ifK (Nat.ble 4 n) (sm a0 a1 a2 a3 .u .u .u .u K) false) (fun a4 r _ => List.rec (motive := fun _ => Bool) (ifK (Nat.ble 5 n) (sm a0 a1 a2 a3 a4 .u .u .u K) false) (fun a5 r _ => List.rec (motive := fun _ => Bool) (ifK (Nat.ble 6 n) (sm a0 a1 a2 a3 a4 a5 .u .u K) false) (fun a6 r _ => List.rec (motive := fun _ => Bool) (ifK (Nat.ble 7 n) (sm a0 a1 a2 a3 a4 a5 a6 .u K) false) (fun a7 r _ => List.rec (motive := fun _ => Bool) (ifK (Nat.ble 8 n) (sm a0 a1 a2 a3 a4 a5 a6 a7 K) false) (fun _ _ _ => argL n l K) r) r) r) r) r) r) r) r) l
theorem s3_at (a : N8 SV) (i : Nat) (hi : i < 512) : nAt i 3 (s3d a) = if i < 8 then (nAt i 1 a : SV) else SV.u := by
  have hu : ∀ k j, nAt j k (nRep SV.u k) = SV.u := fun k j => nAt_rep j SV.u k
  rw [nAt_s, nAt_s]
  have e2 : (8 : Nat) ^ 2 = 64 := rfl
  have e1 : (8 : Nat) ^ 1 = 8 := rfl
  rw [e2, e1]
  have h2 : i / 64 < 8 := by omega
  by_cases h8 : i < 8
  · rw [if_pos h8, show i / 64 = 0 by omega, show i / 8 = 0 by omega]; rfl
  · rw [if_neg h8]
    by_cases h64 : i < 64
    · rw [show i / 64 = 0 by omega]
      have : i / 8 < 8 := by omega
      have hne : i / 8 ≠ 0 := by omega
      generalize i / 8 = q at this hne
      match q, this with
      | 0, _ => exact absurd rfl hne
      | 1, _ | 2, _ | 3, _ | 4, _ | 5, _ | 6, _ | 7, _ => exact hu 1 i
    · have hne : i / 64 ≠ 0 := by omega
      have key : ∀ j, get8 (dig j) (nRep SV.u 2) = nRep SV.u 1 := fun j => by
        show get8 _ (N8.mk _ _ _ _ _ _ _ _) = _
        cases dig j <;> rfl
      generalize i / 64 = q at h2 hne
      match q, h2 with
      | 0, _ => exact absurd rfl hne
      | 1, _ | 2, _ | 3, _ | 4, _ | 5, _ | 6, _ | 7, _ => exact (congrArg (nAt i 1) (key (i / 8))).trans (hu 1 i)
theorem init_get : ∀ (l : List Value) (k : Nat) (tr : Tr Value) (i : Nat), (initTm.go l k tr).get i = if k ≤ i ∧ i < k + l.length then l[i - k]? else tr.get i := by
  intro l
  induction l with
  | nil => intro k tr i; rw [if_neg (by rw [List.length_nil]; omega)]; rfl
  | cons v l ih =>
    intro k tr i
    show (initTm.go l (k + 1) (tr.put k (some v))).get i = _
    rw [ih, Tr.get_put]
    by_cases h1 : k + 1 ≤ i ∧ i < k + 1 + l.length
    · rw [if_pos h1, if_pos (by simp; omega), show i - k = (i - (k + 1)) + 1 by omega, List.getElem?_cons_succ]
    · rw [if_neg h1]
      by_cases h2 : i = k
      · rw [if_pos h2, if_pos (by rw [List.length_cons]; omega), h2, Nat.sub_self]; rfl
      · rw [if_neg h2, if_neg (by rw [List.length_cons]; omega)]
theorem sm_rel (ρ : Nat → Nat) {l : List SV} {a : N8 SV} (hl : l.length ≤ 8) (h : ∀ i, i < 8 → nAt i 1 a = (l[i]?).getD .u) : TRel ρ (enc 3 (s3d a)) (initTm.go (instL ρ l) 0 .lf) := by
  refine ⟨_, rfl, fun i hi => ?_⟩
  rw [s3_at a i hi, init_get, instL_map, List.length_map]
  by_cases h8 : i < 8
  · rw [if_pos h8, h i h8]
    by_cases hl : i < l.length
    · rw [if_pos (by omega), Nat.sub_zero, List.getElem?_map, List.getElem?_eq_getElem hl]; rfl
    · rw [if_neg (by omega), List.getElem?_eq_none (by omega)]; rfl
  · rw [if_neg h8, if_neg (by omega)]; rfl
theorem sm_fin (ρ : Nat → Nat) {n : Nat} {l : List SV} {K : Tm → Bool} {a0 a1 a2 a3 a4 a5 a6 a7 : SV} (hl : l.length ≤ 8) (ha : ∀ i, i < 8 → nAt i 1 (.mk a0 a1 a2 a3 a4 a5 a6 a7) = (l[i]?).getD .u) (h : ifK (Nat.ble l.length n) (sm a0 a1 a2 a3 a4 a5 a6 a7 K) false = true) : l.length ≤ n ∧ ∃ tm, TRel ρ tm (initTm.go (instL ρ l) 0 .lf) ∧ K tm = true := by
  obtain ⟨h1, h2⟩ := ifF_true h
  rw [sm_eq] at h2
  exact ⟨Nat.le_of_ble_eq_true h1, _, sm_rel ρ hl ha, h2⟩
theorem at8 {P : Nat → Prop} (p0 : P 0) (p1 : P 1) (p2 : P 2) (p3 : P 3) (p4 : P 4) (p5 : P 5) (p6 : P 6) (p7 : P 7) : ∀ i, i < 8 → P i := fun i hi => by
  match i, hi with
  | 0, _ => exact p0
  | 1, _ => exact p1
  | 2, _ => exact p2
  | 3, _ => exact p3
  | 4, _ => exact p4
  | 5, _ => exact p5
  | 6, _ => exact p6
  | 7, _ => exact p7
theorem argK_true (ρ : Nat → Nat) {n : Nat} {l : List SV} {K : Tm → Bool} (h : argK n l K = true) : l.length ≤ n ∧ ∃ tm, TRel ρ tm (initTm.go (instL ρ l) 0 .lf) ∧ K tm = true := by
  match l, h with
  | [], h => exact ⟨Nat.zero_le _, _, TRel.empty ρ, h⟩
  | [_], h => exact sm_fin ρ (by simp) (at8 rfl rfl rfl rfl rfl rfl rfl rfl) h
  | [_, _], h => exact sm_fin ρ (by simp) (at8 rfl rfl rfl rfl rfl rfl rfl rfl) h
  | [_, _, _], h => exact sm_fin ρ (by simp) (at8 rfl rfl rfl rfl rfl rfl rfl rfl) h
  | [_, _, _, _], h => exact sm_fin ρ (by simp) (at8 rfl rfl rfl rfl rfl rfl rfl rfl) h
  | [_, _, _, _, _], h => exact sm_fin ρ (by simp) (at8 rfl rfl rfl rfl rfl rfl rfl rfl) h
  | [_, _, _, _, _, _], h => exact sm_fin ρ (by simp) (at8 rfl rfl rfl rfl rfl rfl rfl rfl) h
  | [_, _, _, _, _, _, _], h => exact sm_fin ρ (by simp) (at8 rfl rfl rfl rfl rfl rfl rfl rfl) h
  | [_, _, _, _, _, _, _, _], h => exact sm_fin ρ (by simp) (at8 rfl rfl rfl rfl rfl rfl rfl rfl) h
  | _ :: _ :: _ :: _ :: _ :: _ :: _ :: _ :: _ :: _, h =>
    have h : argL n _ K = true := h
    unfold argL at h
    rw [cntK_eq, Nat.zero_add] at h
    obtain ⟨h1, h2⟩ := ifF_true h
    exact ⟨Nat.le_of_ble_eq_true h1, initK_true ρ (TRel.empty ρ) h2⟩
def cFun (E : Env) (g : FuncId) : Bx FnF := Option.rec (motive := fun _ => Bx FnF)
  (Option.rec (motive := fun _ => Bx FnF) dF (fun fn => Option.rec (motive := fun _ => Bx FnF) dF (fun c => .mk fun cf args t m K => argK fn.ntmps args fun tm => goC (cCode E fn.ntmps c) cf tm t m fun x tm t m => Xt.rec (motive := fun _ => Bool)
    (resK E.T fn.results.toList tm t fun l => outK l fun v => K v t m) (resK E.T fn.results.toList tm t fun l => outK l fun v => K v t m) (fun _ => false) x) fn.body) (E.T.fn g))
  (fun h => .mk fun _ args t m K => h args t m K) (E.mac g)
def FnOk (ρ : Nat → Nat) (E : Env) (g : FuncId) (f : FnF) : Prop := ∀ cf, CfOk ρ E cf → ∀ args t m K (R : Value → Heap → Prop), f cf args t m K = true → (∀ v t' m', K v t' m' = true → R (v.inst ρ) (instH ρ t' m')) → ACall E.P E.T g ⟨instL ρ args⟩ (instH ρ t m) R
theorem cFun_ok {ρ : Nat → Nat} {E : Env} (hE : EnvOk ρ E) (g : FuncId) : BxP (FnOk ρ E g) (cFun E g) := by
  have hdF : BxP (FnOk ρ E g) dF := ⟨_, rfl, fun cf _ args t m K R h => by cases h⟩
  unfold cFun
  cases hm : E.mac g with
  | some h => exact ⟨_, rfl, fun cf _ args t m K R hk hR => hE.mac g h hm args t m K R hk hR⟩
  | none =>
    cases hf : E.T.fn g with
    | none => exact hdF
    | some fn =>
      cases hb : fn.body with
      | none => simp only [hb]; exact hdF
      | some c =>
        simp only [hb]
        refine ⟨_, rfl, fun cf hcf args t m K R h hR => ?_⟩
        obtain ⟨hl, tm, h3, h⟩ := argK_true ρ h
        refine acall_of' fn.ntmps _ (hE.orc _ _) hf hb (by show (instL ρ args).length + (fn.ntmps - (instL ρ args).length) = _; rw [instL_len]; omega) rfl (goC_ok (cCode_ok hE fn.ntmps c) cf hcf tm t m _ _ h (fun x tm t m s hk hs => ?_) ⟨_, _⟩ ⟨h3, rfl⟩)
        obtain ⟨tr, H⟩ := s
        obtain ⟨hT, hH⟩ := hs
        simp only at hT hH
        subst hH
        cases x with
        | normal =>
          obtain ⟨l, h4, h5⟩ := resK_true hT (m := m) hk
          obtain ⟨v, h6, h7⟩ := outK_true ρ h4 h5
          exact bodyQ_normal ⟨_, h6, hR _ _ _ h7⟩
        | ret =>
          obtain ⟨l, h4, h5⟩ := resK_true hT (m := m) hk
          obtain ⟨v, h6, h7⟩ := outK_true ρ h4 h5
          exact bodyQ_ret ⟨_, h6, hR _ _ _ h7⟩
        | exit i => cases hk
def goF (b : Bx FnF) : FnF := fun cf args t m K => Bx.rec (motive := fun _ => Bool) (fun g => g cf args t m K) b
/-- Calls, so deep. -/
def callN (E : Env) (k : Nat) : Cf := Nat.rec (motive := fun _ => Cf) (fun _ _ _ _ _ => false) (fun _ ih g args t m K => goF (cFun E g) ih args t m K) k
theorem callN_ok {ρ : Nat → Nat} {E : Env} (hE : EnvOk ρ E) (k : Nat) : CfOk ρ E (callN E k) := by
  induction k with
  | zero => intro g args t m K R h; cases h
  | succ k ih =>
    intro g args t m K R h hR
    obtain ⟨f, h1, h2⟩ := cFun_ok hE g
    have h : goF (cFun E g) (callN E k) args t m K = true := h
    unfold goF at h
    rw [h1] at h
    exact h2 _ ih args t m K R h hR
/-- **From a run by the kernel to what a call comes to.** -/
theorem run_call {ρ : Nat → Nat} {E : Env} (hE : EnvOk ρ E) (k : Nat) {f : FuncId} {args : List SV} {t : HT} {m : Nat} {K : KV} {R : Value → Heap → Prop} (h : callN E k f args t m K = true) (hR : ∀ v t' m', K v t' m' = true → R (v.inst ρ) (instH ρ t' m')) : ACall E.P E.T f ⟨instL ρ args⟩ (instH ρ t m) R := callN_ok hE k f args t m K R h hR
end
end Go.Ev
