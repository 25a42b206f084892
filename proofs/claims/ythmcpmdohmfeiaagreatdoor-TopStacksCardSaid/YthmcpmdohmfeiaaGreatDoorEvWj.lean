/- Operations on values that are not known whole: append, copy, len, min, max, clear. -/
import Derived.Test.YthmcpmdohmfeiaaGreatDoorEvWi
namespace Go.Ev
open Go
set_option linter.unusedVariables false
set_option linter.unusedSimpArgs false
set_option linter.constructorNameAsVariable false
noncomputable section
def apI (T : Tab) (st xt : TypeId) : Option (TypeId × Nat × Nat) := match T.under st, T.under xt with
  | some (.slice e), some xd => bif isIntD xd then none else (match T.size e, T.bytes e, T.zero e with
    | some (s0 + 1), some (by_ + 1), some _ => some (e, s0 + 1, by_ + 1)
    | _, _, _ => none)
  | _, _ => none
def notB (x : SV) (b : Nat) (K : Bool) : Bool := match x with
  | .ns => K
  | .st _ => K
  | .sl b' _ _ _ => ifK (Nat.beq b' b) false K
  | _ => false
theorem notB_true (ρ : Nat → Nat) {x : SV} {b : Nat} {K : Bool} (h : notB x b K = true) : (blockOf (x.inst ρ) == some b) = false ∧ K = true := by
  unfold notB at h
  split at h
  · exact ⟨rfl, h⟩
  · exact ⟨rfl, h⟩
  · rcases ifK_true h with ⟨_, h⟩ | ⟨h1, h⟩
    · cases h
    · refine ⟨?_, h⟩
      rw [beq_eq_false_iff_ne]
      intro e
      simp only [SV.inst, blockOf, Option.some.injEq] at e
      exact Nat.ne_of_beq_eq_false h1 e
  · cases h
def isNil (l : List SV) (a b : Bool) : Bool := List.rec (motive := fun _ => Bool) a (fun _ _ _ => b) l
theorem isNil_true {l : List SV} {a b : Bool} (h : isNil l a b = true) : (l = [] ∧ a = true) ∨ (l ≠ [] ∧ b = true) := by
  cases l with
  | nil => exact .inl ⟨rfl, h⟩
  | cons v l => exact .inr ⟨List.cons_ne_nil _ _, h⟩
/-- A part of a block's cells, others behind it. -/
def rc0 (c : Cs) (off z w : Nat) (new : List SV) (K : Cs → Bool) : Bool := leK c z (crK c off w fun old => catK old new fun l => mkC l K)
def rcK (c : Cs) (off z w : Nat) (new : List SV) (K : Cs → Bool) : Bool := Cs.rec (motive := fun _ => Bool) (fun l => rc0 (.ls l) off z w new K) (fun zs t => rc0 (.tr zs t) off z w new K)
  (fun n x => ifK (Nat.beq off 0) (ifK (Nat.beq n w) (moreK new n x fun n x => K (.a n x)) (rc0 (.a n x) off z w new K)) (rc0 (.a n x) off z w new K)) c
theorem rc0_true {c : Cs} {off w : Nat} {new : List SV} {K : Cs → Bool} (h : rc0 c off (off + w) w new K = true) : ∃ c', c'.toL = (c.toL.drop off).take w ++ new ∧ off + w ≤ c.toL.length ∧ K c' = true := by
  obtain ⟨h1, h⟩ := leK_true h
  obtain ⟨h2, h⟩ := crK_true h
  rw [catK_eq] at h
  obtain ⟨c', h3, h⟩ := mkC_true h
  exact ⟨c', h3, h1, h⟩
theorem rcK_true {c : Cs} {off w : Nat} {new : List SV} {K : Cs → Bool} (h : rcK c off (off + w) w new K = true) : ∃ c', c'.toL = (c.toL.drop off).take w ++ new ∧ off + w ≤ c.toL.length ∧ K c' = true := by
  cases c with
  | ls l => exact rc0_true h
  | tr zs t => exact rc0_true h
  | a n x =>
    rcases ifK_true h with ⟨h1, k1⟩ | ⟨_, h⟩
    · rcases ifK_true k1 with ⟨h2, k2⟩ | ⟨_, h⟩
      · clear h k1
        obtain rfl := Nat.eq_of_beq_eq_true h1
        obtain rfl := Nat.eq_of_beq_eq_true h2
        obtain ⟨m, y, h3, h⟩ := moreK_true k2
        refine ⟨_, ?_, by rw [toL_a_len]; omega, h⟩
        rw [h3, List.drop_zero, List.take_of_length_le (by rw [toL_a_len]; exact Nat.le_refl _)]
      · exact rc0_true h
    · exact rc0_true h
def appK (T : Tab) (st xt : TypeId) (s x : SV) (t : HT) (n : Nat) (K : KV) : Bool := bnd (apI T st xt) fun q => srcK q.2.1 x t fun m new => match s with
  | .ns => ifK (m.beq 0) (K .ns t n) (ifK ((Nat.mul m q.2.2).ble 140737488355328) (mkC new fun c => fN (Nat.add unk q.2.1) fun u => pushK ⟨c, q.1, false⟩ (.sl n 0 m u) t n K) false)
  | .sl b off len cap => notB x b (obK b t fun c e r => ifK r false (
      ifK (unk.ble cap)
        (ifK (Nat.beq e q.1) (ifK (m.beq 0) (K (.sl b off len cap) t n) (ifK ((Nat.mul (Nat.add len m) q.2.2).ble 140737488355328) (onesK new (fN (Nat.mul len q.2.1) fun w => fN (Nat.add off w) fun z => rcK c off z w new fun c => fN (Nat.add unk q.2.1) fun u => fN (Nat.add len m) fun g =>
          hpK b none t fun t => pushK ⟨c, q.1, false⟩ (.sl n 0 g u) t n K)) false)) false)
        (ifK (len.beq 0 && cap.beq 0 && m.beq 0)
          (ifK (Nat.beq e q.1) (leK c off (fN (Nat.add unk q.2.1) fun u => K (.sl b off 0 u) t n)) false)
          (ifK ((Nat.add len m).ble cap)
            (fN (Nat.add off (Nat.mul len q.2.1)) fun z => fN (Nat.add len m) fun g => onesK new (wrK c z new fun c => hpK b (some ⟨c, e, false⟩) t fun t => K (.sl b off g cap) t n))
            (ifK (m.beq 0) false (ifK ((Nat.mul (Nat.add len m) q.2.2).ble 140737488355328) (fN (Nat.mul len q.2.1) fun w => fN (Nat.add off w) fun z => rcK c off z w new fun c => fN (Nat.add unk q.2.1) fun u => fN (Nat.add len m) fun g =>
              pushK ⟨c, q.1, false⟩ (.sl n 0 g u) t n K) false))))))
  | _ => false
theorem wr_put (ρ : Nat → Nat) {b : Nat} {z : Nat} {new : List SV} {t t' : HT} {n : Nat} {c c' : Cs} {e : TypeId} (h1 : ∀ ρ n, (instH ρ t n).get b = some ⟨c.toL.map (SV.inst ρ), e, false⟩) (h4 : ∀ ρ n, instH ρ t' n = (instH ρ t n).put b (SOb.inst ρ ⟨c', e, false⟩)) (h2 : (new.map (SV.inst ρ)).all one = true) (k1 : c'.toL = c.toL.take z ++ new ++ c.toL.drop (z + new.length)) (k2 : z + new.length ≤ c.toL.length) :
    aput b z (new.map (SV.inst ρ)) (instH ρ t n) = some (instH ρ t' n) := by
  have hl : (z + (new.map (SV.inst ρ)).length).ble (c.toL.map (SV.inst ρ)).length = true := Nat.ble_eq_true_of_le (by simpa using k2)
  simp only [aput, h1 ρ n, h2, hl, Bool.not_false, Bool.and_self, cond_true, h4, SOb.inst, k1]
  congr 3
  rw [splice_eq _ _ _ (by simpa using k2)]
  simp [List.map_take, List.map_drop]
theorem appK_true (ρ : Nat → Nat) {T : Tab} {st xt : TypeId} {s x : SV} {t : HT} {n : Nat} {K : KV} (h : appK T st xt s x t n K = true) :
    ∃ v t' n', aappend T st xt (s.inst ρ) (x.inst ρ) (instH ρ t n) = some (SV.inst ρ v, instH ρ t' n') ∧ K v t' n' = true := by
  obtain ⟨q, h1, h⟩ := bnd_true (r := apI T st xt) h
  obtain ⟨m, new, h2, h⟩ := srcK_true ρ (n := n) h
  unfold apI at h1
  split at h1
  · rename_i e0 xd hs hx
    cases hi : isIntD xd <;> rw [hi] at h1
    · simp only [cond_false] at h1
      split at h1
      · rename_i s0 by_ z0 hz hb hz0
        cases h1
        simp only at h h2
        have start : aappend T st xt (s.inst ρ) (x.inst ρ) (instH ρ t n) = (match s.inst ρ with
          | .slice base len cap => match base with
            | none =>
              bif len.beq 0 && cap.beq 0 then
                bif m.beq 0 then some (s.inst ρ, instH ρ t n) else bif (m * (by_ + 1)).ble 140737488355328 then some (.slice (some ⟨n, 0, none⟩) m (unk + (s0 + 1)), (instH ρ t n).push ⟨new.map (SV.inst ρ), e0, false⟩) else none
              else none
            | some ⟨b, off, none⟩ =>
              bif blockOf (x.inst ρ) == some b then none else
              match (instH ρ t n).get b with
              | some o =>
                bif o.ro then none else
                bif unk.ble cap then
                  bif o.elem.beq e0 then
                  bif m.beq 0 then some (s.inst ρ, instH ρ t n) else
                  bif (off + len * (s0 + 1)).ble o.cells.length && (new.map (SV.inst ρ)).all one && ((len + m) * (by_ + 1)).ble 140737488355328 then some (.slice (some ⟨n, 0, none⟩) (len + m) (unk + (s0 + 1)), ((instH ρ t n).kill b).push ⟨(o.cells.drop off).take (len * (s0 + 1)) ++ new.map (SV.inst ρ), e0, false⟩) else none
                  else none
                else bif len.beq 0 && cap.beq 0 && m.beq 0 then
                  bif o.elem.beq e0 && off.ble o.cells.length then some (.slice (some ⟨b, off, none⟩) 0 (unk + (s0 + 1)), instH ρ t n) else none
                else bif (len + m).ble cap then
                  match aput b (off + len * (s0 + 1)) (new.map (SV.inst ρ)) (instH ρ t n) with
                  | some H' => some (.slice (some ⟨b, off, none⟩) (len + m) cap, H')
                  | none => none
                else bif m.beq 0 then none else
                  bif (off + len * (s0 + 1)).ble o.cells.length && ((len + m) * (by_ + 1)).ble 140737488355328 then some (.slice (some ⟨n, 0, none⟩) (len + m) (unk + (s0 + 1)), (instH ρ t n).push ⟨(o.cells.drop off).take (len * (s0 + 1)) ++ new.map (SV.inst ρ), e0, false⟩) else none
              | none => none
            | _ => none
          | _ => none) := by
          unfold aappend
          cases s <;> simp only [hs, hx, SV.inst, hi, cond_false, hz, hb, hz0, h2] <;> rfl
        rw [start]
        split at h
        · simp only [SV.inst]
          rcases ifK_true h with ⟨h3, h⟩ | ⟨h3, h⟩
          · exact ⟨.ns, t, n, by simp only [h3, cond_true]; rfl, h⟩
          · obtain ⟨h4, h⟩ := ifF_true h
            obtain ⟨c1, hc1, h⟩ := mkC_true h
            rw [fN_eq] at h
            obtain ⟨t', ht, h⟩ := pushK_true h
            refine ⟨_, t', n + 1, ?_, h⟩
            have h4 : (m * (by_ + 1)).ble 140737488355328 = true := h4
            simp only [h3, h4, cond_true, cond_false, ht, SOb.inst, SV.inst, hc1]; rfl
        · rename_i b off len cap _ _
          obtain ⟨hb1, h⟩ := notB_true ρ h
          obtain ⟨c, e, r, g1, h⟩ := obK_true h
          simp only [SV.inst, hb1, cond_false, g1 ρ n]
          cases r
          rotate_left
          · cases h
          rcases ifK_true (b := false) h with ⟨hr, _⟩ | ⟨_, h⟩
          · cases hr
          simp only [cond_false]
          rcases ifK_true h with ⟨h3, h⟩ | ⟨h3, h⟩
          · rw [h3, cond_true]
            obtain ⟨h4, h⟩ := ifF_true h
            have h4 : e.beq e0 = true := h4
            rw [h4, cond_true]
            rcases ifK_true h with ⟨h5, h⟩ | ⟨h5, h⟩
            · exact ⟨.sl b off len cap, t, n, by rw [h5]; rfl, h⟩
            · rw [h5, cond_false]
              obtain ⟨h6, h⟩ := ifF_true h
              obtain ⟨h7, h⟩ := onesK_true ρ h
              rw [fN_eq, fN_eq] at h
              obtain ⟨c1, hc1, h8, h⟩ := rcK_true h
              rw [fN_eq, fN_eq] at h
              obtain ⟨t1, ht1, h⟩ := hpK_kill h
              obtain ⟨t', ht, h⟩ := pushK_true h
              refine ⟨_, t', n + 1, ?_, h⟩
              have h6 : ((len + m) * (by_ + 1)).ble 140737488355328 = true := h6
              have h8 : (off + len * (s0 + 1)).ble (c.toL.map (SV.inst ρ)).length = true := Nat.ble_eq_true_of_le (by simpa using h8)
              rw [h8, h7, h6]
              simp only [Bool.and_self, cond_true, ht, ht1, SOb.inst, SV.inst, hc1, List.map_append, List.map_take, List.map_drop]
              rfl
          · rw [h3, cond_false]
            rcases ifK_true h with ⟨h4, h⟩ | ⟨h4, h⟩
            · rw [h4, cond_true]
              obtain ⟨h5, h⟩ := ifF_true h
              obtain ⟨h6, h⟩ := leK_true h
              rw [fN_eq] at h
              refine ⟨_, t, n, ?_, h⟩
              have h5 : e.beq e0 = true := h5
              have h6 : off.ble (c.toL.map (SV.inst ρ)).length = true := Nat.ble_eq_true_of_le (by simpa using h6)
              rw [h5, h6]; rfl
            · rw [h4, cond_false]
              rcases ifK_true h with ⟨h5, h⟩ | ⟨h5, h⟩
              · have h5 : (len + m).ble cap = true := h5
                rw [h5, cond_true]
                rw [fN_eq, fN_eq] at h
                obtain ⟨h6, h⟩ := onesK_true ρ h
                obtain ⟨c', k1, k2, h⟩ := wrK_true h
                obtain ⟨t', ht, h⟩ := hpK_true h
                refine ⟨_, t', n, ?_, h⟩
                have := wr_put ρ (n := n) g1 ht h6 k1 k2
                have this : aput b (off + len * (s0 + 1)) (new.map (SV.inst ρ)) (instH ρ t n) = _ := this
                rw [this]; rfl
              · have h5 : (len + m).ble cap = false := h5
                rw [h5, cond_false]
                rcases ifK_true h with ⟨_, h⟩ | ⟨h6, h⟩
                · cases h
                rw [h6, cond_false]
                obtain ⟨h7, h⟩ := ifF_true h
                rw [fN_eq, fN_eq] at h
                obtain ⟨c1, hc1, h8, h⟩ := rcK_true h
                rw [fN_eq, fN_eq] at h
                obtain ⟨t', ht, h⟩ := pushK_true h
                refine ⟨_, t', n + 1, ?_, h⟩
                have h7 : ((len + m) * (by_ + 1)).ble 140737488355328 = true := h7
                have h8 : (off + len * (s0 + 1)).ble (c.toL.map (SV.inst ρ)).length = true := Nat.ble_eq_true_of_le (by simpa using h8)
                rw [h8, h7]
                simp only [Bool.and_self, cond_true, ht, SOb.inst, SV.inst, hc1, List.map_append, List.map_take, List.map_drop]
                rfl
        · cases h
      · cases h1
    · cases h1
  · cases h1
end
end Go.Ev
