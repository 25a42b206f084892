/- A region of the evaluator is the model's: the operations one behind the other. -/
import Derived.Test.YthmcpmdohmfeiaaGreatDoorEvJ
import Derived.Tactics
namespace Go.Ev
open Go
set_option linter.unusedVariables false
set_option linter.unusedSimpArgs false
/-- Only numbers that were given out are in use. -/
def HWf (H : Heap) : Prop := ∀ b, (H.get b).isSome → b < H.n
theorem HWf.push {H : Heap} (h : HWf H) (o : Ob) : HWf (H.push o) := fun b hb => by
  rw [Heap.get_push] at hb
  rw [Heap.n_push]
  split at hb
  · omega
  · have := h b hb; omega
theorem HWf.kill {H : Heap} (h : HWf H) (x : Nat) : HWf (H.kill x) := fun b hb => by
  rw [Heap.get_kill] at hb
  rw [Heap.n_kill]
  split at hb
  · simp at hb
  · exact h b hb
def Grows (H H' : Heap) : Prop := H.n ≤ H'.n ∧ (HWf H → HWf H')
theorem Grows.refl (H : Heap) : Grows H H := ⟨Nat.le_refl _, id⟩
theorem Grows.trans {a b c : Heap} (h : Grows a b) (k : Grows b c) : Grows a c := ⟨Nat.le_trans h.1 k.1, fun x => k.2 (h.2 x)⟩
theorem Grows.push (H : Heap) (o : Ob) : Grows H (H.push o) := ⟨by simp [Heap.n_push], fun h => h.push o⟩
section
variable (P : Program) (T : Tab) (callf : FuncId → Array Value → Heap → Option (Value × Heap))
/-- What an operation comes to. -/
def Outc (ops : Array Oper) (o : Oper) (s : St) (v : Value) (H' : Heap) : Prop :=
  (awanted ops s.tm o = false ∧ v = undef ∧ H' = s.H) ∨
  (awanted ops s.tm o = true ∧ ∃ r H1, aop P T s.tm o s.H = some (r, H1) ∧
    ((r = .val v ∧ H' = H1) ∨ (r = .skip ∧ v = undef ∧ H' = H1) ∨ ∃ f args, r = .enter f args ∧ callf f args H1 = some (v, H')))
theorem step1_inv {n : Nat} {ops : Array Oper} {o : Oper} {s s' : St} (h : step1 P T n callf ops o s = some s') : ∃ v, Outc P T callf ops o s v s'.H ∧ dput n s.tm o.dst v = some s'.tm := by
  have hfin : ∀ {dst tm v H}, fin n dst tm v H = some s' → s'.H = H ∧ dput n tm dst v = some s'.tm := by
    intro dst tm v H h
    unfold fin at h
    split at h
    · rename_i tm' htm; cases h; exact ⟨rfl, htm⟩
    · cases h
  unfold step1 at h
  cases hw : awanted ops s.tm o
  · rw [hw] at h
    simp only [cond_false] at h
    obtain ⟨h1, h2⟩ := hfin h
    exact ⟨undef, .inl ⟨hw, rfl, h1⟩, h2⟩
  · rw [hw] at h
    simp only [cond_true] at h
    split at h
    · rename_i v H1 ha
      obtain ⟨h1, h2⟩ := hfin h
      exact ⟨v, .inr ⟨hw, _, _, ha, .inl ⟨rfl, h1⟩⟩, h2⟩
    · rename_i H1 ha
      obtain ⟨h1, h2⟩ := hfin h
      exact ⟨undef, .inr ⟨hw, _, _, ha, .inr (.inl ⟨rfl, rfl, h1⟩)⟩, h2⟩
    · rename_i f args H1 ha
      split at h
      · rename_i v H2 hc
        obtain ⟨h1, h2⟩ := hfin h
        exact ⟨v, .inr ⟨hw, _, _, ha, .inr (.inr ⟨f, args, rfl, by rw [h1]; exact hc⟩)⟩, h2⟩
      · cases h
    · cases h
def CallPost [Bs] (P : Program) (m : Map) (H : Heap) (w : World) (v : Value) (H' : Heap) (e : Ending) (w' : World) : Prop :=
  ∃ v' m', e = .returned v' ∧ VR m' v v' ∧ Rep P m' H' w' ∧ Fr m H w m' H' w'
def CallOk [Bs] : Prop := ∀ f args H v H', callf f args H = some (v, H') → HWf H → ∀ m w args', Rep P m H w → VRs m args.toList args'.toList → Calls P f args' w (CallPost P m H w v H')
end
def wpO (P : Program) (ops : Array Oper) (Q : Exit → Act → World → Prop) (o : Oper) (K : Act → World → Prop) (a : Act) (w : World) : Prop :=
  if Region.wanted o (yielded ops a.tmps) then o.wp P a w K Q ∨ (o.asks P a w ∧ LetsOut Q) else K (a.put o.dst undef) w
theorem wpOp_eq {P : Program} {ops : Array Oper} {Q : Exit → Act → World → Prop} {o : Oper} {i : Nat} {K : Act → World → Prop} {a : Act} {w : World} (h : ops[i]? = some o) : wpOp P ops Q i K a w = wpO P ops Q o K a w := by
  unfold wpOp wpO; simp only [h]
section
variable {P : Program} {T : Tab} {callf : FuncId → Array Value → Heap → Option (Value × Heap)}
/-- What each program's operation asks of its types besides. -/
def boxOk (P : Program) (o : Oper) : Prop := ∀ e x, o.op = .box e x → ∃ i, P.info? e = some i
theorem out_sound [Bs] (hT : TabOk P T) (hF : FnsOk P T) (hC : CallOk P callf) {ops : Array Oper} {Q : Exit → Act → World → Prop} {o : Oper} {s : St} {v : Value} {H' : Heap} {m : Map} {a : Act} {w : World} {K : Act → World → Prop}
    (hb : boxOk P o) (ho : Outc P T callf ops o s v H') (ht : OpRel m s.tm a o.op.operands.toList) (hw : Region.wanted o (yielded ops a.tmps) = awanted ops s.tm o) (hr : Rep P m s.H w) (hwf : ∀ r H1, aop P T s.tm o s.H = some (r, H1) → HWf H1)
    (hK : ∀ v' w' m', VR m' v v' → Rep P m' H' w' → Fr m s.H w m' H' w' → K (a.put o.dst v') w') : wpO P ops Q o K a w := by
  unfold wpO
  rw [hw]
  rcases ho with ⟨h1, rfl, rfl⟩ | ⟨h1, r, H1, h2, h3⟩
  · rw [h1]
    exact hK undef w m (VR.of_closed rfl) hr (Fr.refl _ _ _)
  · rw [h1, if_pos rfl]
    obtain ⟨r', w', m', g1, g2, g3, g4⟩ := aop_sound hT hF hb h2 hr ht
    · refine .inl ?_
      unfold Oper.wp
      rw [g1]
      cases g2 with
      | val hv =>
        rcases h3 with ⟨h4, rfl⟩ | ⟨h4, _⟩ | ⟨_, _, h4, _⟩
        · cases h4; exact hK _ _ _ hv g3 g4
        · cases h4
        · cases h4
      | skip =>
        rcases h3 with ⟨h4, _⟩ | ⟨_, rfl, rfl⟩ | ⟨_, _, h4, _⟩
        · cases h4
        · exact hK _ _ _ (VR.of_closed rfl) g3 g4
        · cases h4
      | enter hv =>
        rcases h3 with ⟨h4, _⟩ | ⟨h4, _⟩ | ⟨f, args, h4, h5⟩
        · cases h4
        · cases h4
        · cases h4
          refine (hC _ _ _ _ _ h5 (hwf _ _ h2) m' w' _ g3 hv).mono fun e w'' he => ?_
          obtain ⟨v', m'', rfl, k1, k2, k3⟩ := he
          exact hK v' w'' m'' k1 k2 (g4.trans hr k3)
/-- The guard. -/
theorem awanted_eq {m : Map} {ops : Array Oper} {o : Oper} {tm : Tr Value} {arr : Array Value} (h : ∀ g want, o.guard = some (g, want) → ∀ d, (ops[g]?).bind (·.dst) = some d → VR m ((tm.get d).getD undef) (arr.getD d undef)) :
    Region.wanted o (yielded ops arr) = awanted ops tm o := by
  unfold Region.wanted awanted
  cases hg : o.guard with
  | none => rfl
  | some gw =>
    obtain ⟨g, want⟩ := gw
    unfold yielded
    cases hd : (ops[g]?).bind (·.dst) with
    | none => simp [hd]
    | some d =>
      have hv := h g want hg d hd
      simp only [hd, Option.bind_some]
      cases ht : tm.get d with
      | none =>
        rw [ht] at hv
        simp only [Option.getD_none] at hv
        have h2 := hv.closed_eq rfl
        have h3 : arr[d]? = none ∨ arr[d]? = some undef := by
          cases he : arr[d]? with
          | none => exact .inl rfl
          | some x => simp [he] at h2; exact .inr (by rw [h2])
        rcases h3 with h3 | h3 <;> rw [h3] <;> rfl
      | some x =>
        rw [ht] at hv
        simp only [Option.getD_some] at hv
        by_cases hbx : ∃ b, x = .bool b
        · obtain ⟨b, rfl⟩ := hbx
          have h2 := hv.plain_eq rfl
          have h3 : arr[d]? = some (.bool b) := by
            cases he : arr[d]? with
            | none => simp [he, undef] at h2
            | some y => simp [he] at h2; rw [h2]
          rw [h3]
          cases b <;> cases want <;> rfl
        · have h4 : ∀ b, arr[d]? ≠ some (.bool b) := by
            intro b he
            simp only [Array.getD_eq_getD_getElem?, he, Option.getD_some] at hv
            cases hv with
            | same => exact hbx ⟨_, rfl⟩
          clear hv
          cases x with
          | bool b => exact absurd ⟨b, rfl⟩ hbx
          | _ =>
            cases he : arr[d]? with
            | none => rfl
            | some y =>
              cases y with
              | bool b => exact absurd he (h4 b)
              | _ => rfl
theorem TmRel.wanted {m : Map} {ops : Array Oper} {o : Oper} {tm : Tr Value} {arr : Array Value} (h : TmRel m tm arr) : Region.wanted o (yielded ops arr) = awanted ops tm o :=
  awanted_eq fun _ _ _ d _ => h d
theorem dput_rel {m : Map} {n : Nat} {tm tm' : Tr Value} {a : Act} {dst : Option Tmp} {v v' : Value} (h : dput n tm dst v = some tm') (hn : a.tmps.size = n) (ht : TmRel m tm a.tmps) (hv : VR m v v') :
    TmRel m tm' (a.put dst v').tmps ∧ (a.put dst v').tmps.size = n ∧ (a.put dst v').defers = a.defers := by
  unfold dput at h
  cases dst with
  | none => cases h; exact ⟨ht, hn, rfl⟩
  | some d =>
    simp only at h
    cases hd : d.blt n
    · rw [hd] at h; cases h
    · rw [hd] at h
      cases h
      have hlt : d < a.tmps.size := by rw [hn]; simpa [Nat.blt_eq] using hd
      refine ⟨fun t => ?_, by simp [Act.put, hn], rfl⟩
      rw [Tr.get_put]
      simp only [Act.put, Array.getD_eq_getD_getElem?, Array.getElem?_setIfInBounds]
      by_cases e : d = t
      · subst e
        simp [hlt, hv]
      · rw [if_neg (Ne.symm e), if_neg e]
        have := ht t
        simpa [Array.getD_eq_getD_getElem?] using this
end
end Go.Ev
