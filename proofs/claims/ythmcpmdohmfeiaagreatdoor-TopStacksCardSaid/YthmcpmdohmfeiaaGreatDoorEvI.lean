/- One operation of the evaluator is one of the model's. -/
import Derived.Test.YthmcpmdohmfeiaaGreatDoorEvIn
namespace Go.Ev
open Go
set_option linter.unusedVariables false
set_option linter.unusedSimpArgs false
inductive ResR (m : Map) : Res → Next → Prop where
  | val {v v' : Value} (h : VR m v v') : ResR m (.val v) (.value v')
  | skip : ResR m .skip .skip
  | enter {f : FuncId} {as bs : Array Value} (h : VRs m as.toList bs.toList) : ResR m (.enter f as) (.enter f bs)
structure FnsOk (P : Program) (T : Tab) : Prop where
  fn : ∀ f fn, T.fn f = some fn → P.funcs[f]? = some fn ∧ fn.body.isSome = true ∧ (fn.name == "runtime.NumGoroutine") = false
  has : ∀ f, T.has f = true → ∃ fn, P.funcs[f]? = some fn ∧ fn.body.isSome = true ∧ (fn.name == "runtime.NumGoroutine") = false
theorem FnsOk.can {P : Program} {T : Tab} (h : FnsOk P T) {f : FuncId} {u : Unit} (hc : T.can f = some u) : ∃ fn, P.funcs[f]? = some fn ∧ fn.body.isSome = true ∧ (fn.name == "runtime.NumGoroutine") = false := by
  unfold Tab.can at hc
  split at hc
  · rename_i fn hf; exact ⟨fn, h.fn f fn hf⟩
  · cases hb : T.has f
    · rw [hb] at hc; cases hc
    · exact h.has f hb
section
variable {P : Program} {T : Tab} (hT : TabOk P T) (hF : FnsOk P T) {m : Map} {H H' : Heap} {w : World} {tm : Tr Value} {a : Act} {o : Oper} {r : Res}
/-- What an operation's run must be. -/
def Good [Bs] (P : Program) (m : Map) (H : Heap) (w : World) (a : Act) (o : Oper) (r : Res) (H' : Heap) : Prop :=
  ∃ r' w' m', (execOp a.eval o).run P w = .ok r' w' ∧ ResR m' r r' ∧ Rep P m' H' w' ∧ Fr m H w m' H' w'
theorem good_val [Bs] {v : Value} {u : Option Value} (hv : val u H = some (r, H')) (hr : Rep P m H w) (hrun : ∀ v, u = some v → ∃ v', (execOp a.eval o).run P w = .ok (.value v') w ∧ VR m v v') : Good P m H w a o r H' := by
  unfold val at hv
  split at hv
  · cases hv
    obtain ⟨v', h1, h2⟩ := hrun _ rfl
    exact ⟨_, w, m, h1, .val h2, hr, Fr.refl _ _ _⟩
  · cases hv
theorem orVal_cases {u v : Option Value} {x : Value} (h : orVal u v = some x) : u = some x ∨ v = some x := by
  unfold orVal at h
  split at h
  · exact .inl h
  · exact .inr h
include hT
theorem amap_sound [Bs] (h : amap P T tm o H = some (r, H')) (hr : Rep P m H w) (ht : OpRel m tm a o.op.operands.toList) : Good P m H w a o r H' := by
  unfold amap at h
  split at h
  · rename_i t hop
    cases h
    obtain ⟨h1, h2⟩ := mpush_sound hr t
    exact ⟨.value (.map (some w.heap.size)), _, _, by simp [execOp, hop, Instr.makeMap, newObj]; rfl, .val (.map (Map.add_self _ _ _) rfl), h1, h2⟩
  · rename_i t x i ok hop
    split at h
    · rename_i u v hu hv
      exact good_val (v := undef) h hr fun z hz => by
        obtain ⟨r', h1, h2⟩ := alookup_sound hT hz hr.toRep0 (ht _ (by simp [hop, Op.operands]) _ hu) (ht _ (by simp [hop, Op.operands]) _ hv)
        exact ⟨r', by simp [execOp, hop, h1], h2⟩
    · cases h
  · rename_i t x i y hop
    split at h
    · rename_i u v z hu hv hz
      unfold skp at h
      split at h
      · rename_i H2 hst
        cases h
        obtain ⟨w', h1, h2, h3⟩ := aupdate_sound hT hst hr (ht _ (by simp [hop, Op.operands]) _ hu) (ht _ (by simp [hop, Op.operands]) _ hv) (ht _ (by simp [hop, Op.operands]) _ hz)
        exact ⟨.skip, w', m, by simp [execOp, hop, h1], .skip, h2, h3⟩
      · cases h
    · cases h
  · rename_i t x i hop
    split at h
    · rename_i u v hu hv
      unfold val2 at h
      split at h
      · rename_i z H2 hst
        cases h
        obtain ⟨r', w', h1, h2, h3, h4⟩ := aentry_sound hT hst hr (ht _ (by simp [hop, Op.operands]) _ hu) (ht _ (by simp [hop, Op.operands]) _ hv)
        exact ⟨.value r', w', m, by simp [execOp, hop, h1], .val h2, h3, h4⟩
      · cases h
    · cases h
  · rename_i t x s y hop
    split at h
    · rename_i u v z hu hv hz
      unfold skp at h
      split at h
      · rename_i H2 hst
        cases h
        obtain ⟨w', h1, h2, h3⟩ := aestore_sound (t := t) hst hr (ht _ (by simp [hop, Op.operands]) _ hu) (ht _ (by simp [hop, Op.operands]) _ hv) (ht _ (by simp [hop, Op.operands]) _ hz)
        exact ⟨.skip, w', m, by simp [execOp, hop, h1], .skip, h2, h3⟩
      · cases h
    · cases h
  · rename_i t x hop
    split at h
    · rename_i u hu
      unfold val2 at h
      split at h
      · rename_i z H2 hst
        cases h
        obtain ⟨r', w', m', h1, h2, h3, h4⟩ := arange_sound hT hst hr (ht _ (by simp [hop, Op.operands]) _ hu)
        exact ⟨.value r', w', m', by simp [execOp, hop, h1], .val h2, h3, h4⟩
      · cases h
    · cases h
  · rename_i x hop
    split at h
    · rename_i u hu
      unfold val2 at h
      split at h
      · rename_i z H2 hst
        cases h
        obtain ⟨r', w', h1, h2, h3, h4⟩ := anext_sound (ty := o.type) hst hr (ht _ (by simp [hop, Op.operands]) _ hu)
        exact ⟨.value r', w', m, by simp [execOp, hop, h1], .val h2, h3, h4⟩
      · cases h
    · cases h
  · rename_i x hop
    split at h
    · rename_i u hu
      exact good_val (v := undef) h hr fun z hz => by
        obtain ⟨r', h1, h2⟩ := ainow_sound hz hr.toRep0 (ht _ (by simp [hop, Op.operands]) _ hu)
        exact ⟨r', by simp [execOp, hop, h1], h2⟩
    · cases h
  · cases h
include hF
theorem acall_sound [Bs] {c : Call} (hop : o.op = .call c) (h : acall P T tm o c H = some (r, H')) (hr : Rep P m H w) (ht : OpRel m tm a o.op.operands.toList) : Good P m H w a o r H' := by
  unfold acall at h
  split at h
  · rename_i f hc
    split at h
    · rename_i g first cap l hf hl
      split at h
      · rename_i hfn
        cases h
        obtain ⟨fn, h1, h2, h3⟩ := hF.can hfn
        have hvf := ht f (by simp [hop, Op.operands, Call.operands, hc]) _ hf
        have hvl := aevals_sound (fun x hx => ht x (by simp [hop, Op.operands, Call.operands, hc] at hx ⊢; exact .inr hx)) hl
        generalize hfv : a.eval f = fv at hvf
        cases hvf with
        | same hp => simp [plain] at hp
        | func hs hx hs2 hx2 =>
          rename_i gs ds
          refine ⟨.enter g (gs ++ c.args.map a.eval ++ ds), w, m, ?_, .enter ?_, hr, Fr.refl _ _ _⟩
          · have hb : fn.body.isNone = false := by cases hq : fn.body <;> simp_all
            have h3' : ¬ fn.name = "runtime.NumGoroutine" := by simpa using h3
            simp [execOp, hop, resolve, hc, hfv, Deferred.ofValue, invoke, callFunc, h1, h3', hb]
            intro hnn; rw [hnn] at hb; cases hb
          · simp only [Array.toList_append, Array.toList_map]
            exact ((VRs.of_arr hs hx).append (by simpa using hvl)).append (VRs.of_arr hs2 hx2)
      · cases h
    · cases h
  · cases h
  · rename_i b hc
    split at h
    · rename_i st xt s x hat hl
      have hvl := aevals_sound (fun x hx => ht x (by simp [hop, Op.operands, Call.operands, hc] at hx ⊢; exact hx)) hl
      obtain ⟨callee, args, argTypes⟩ := c
      simp only at hc hat hl hvl
      subst hc
      obtain ⟨args⟩ := args
      obtain ⟨argTypes⟩ := argTypes
      simp only at hat hl hvl
      subst hat
      have hargs : ∃ p q, args = [p, q] := by
        have := hvl.1
        simp at this
        match args, this with
        | [p, q], _ => exact ⟨p, q, rfl⟩
      obtain ⟨p, q, rfl⟩ := hargs
      have e0 := hvl.2 0 s rfl
      have e1 := hvl.2 1 x rfl
      simp at e0 e1
      unfold val2 at h
      split at h
      · rename_i v H2 happ
        cases h
        have key := aappend_sound hT happ hr e0 e1 o.type
        obtain ⟨v', w', m', k1, k2, k3, k4⟩ := key
        refine ⟨.value v', w', m', ?_, .val k2, k3, k4⟩
        simp [execOp, hop, resolve, invoke, builtin, k1]
      · cases h
    · rename_i dt xt d x hat hl
      have hvl := aevals_sound (fun x hx => ht x (by simp [hop, Op.operands, Call.operands, hc] at hx ⊢; exact hx)) hl
      obtain ⟨callee, args, argTypes⟩ := c
      simp only at hc hat hl hvl
      subst hc
      obtain ⟨args⟩ := args
      obtain ⟨argTypes⟩ := argTypes
      simp only at hat hl hvl
      subst hat
      have hargs : ∃ p q, args = [p, q] := by
        have := hvl.1
        simp at this
        match args, this with
        | [p, q], _ => exact ⟨p, q, rfl⟩
      obtain ⟨p, q, rfl⟩ := hargs
      have e0 := hvl.2 0 d rfl
      have e1 := hvl.2 1 x rfl
      simp at e0 e1
      unfold val2 at h
      split at h
      · rename_i v H2 hcp
        cases h
        obtain ⟨w', k1, k2, k3, k4⟩ := acopy_sound (xt := xt) hT hcp hr e0 e1 o.type
        refine ⟨.value v, w', m, ?_, .val (.same k2), k3, k4⟩
        simp [execOp, hop, resolve, invoke, builtin, k1]
      · cases h
    · rename_i t s n c' hat hl
      have hvl := aevals_sound (fun x hx => ht x (by simp [hop, Op.operands, Call.operands, hc] at hx ⊢; exact hx)) hl
      split at h
      · rename_i e hu
        cases h
        obtain ⟨callee, args, argTypes⟩ := c
        simp only at hc hat hl hvl
        subst hc
        obtain ⟨args⟩ := args
        obtain ⟨argTypes⟩ := argTypes
        simp only at hat hl hvl
        subst hat
        have hargs : ∃ p, args = [p] := by
          have := hvl.1
          simp at this
          match args, this with
          | [p], _ => exact ⟨p, rfl⟩
        obtain ⟨p, rfl⟩ := hargs
        have e0 := hvl.2 0 _ rfl
        simp at e0
        have : ∃ s' c'', a.eval p = .slice s' n c'' := by
          generalize a.eval p = pv at e0
          cases e0 with
          | same => exact ⟨_, _, rfl⟩
          | slice => exact ⟨_, _, rfl⟩
        obtain ⟨s', c'', hp⟩ := this
        refine ⟨.value (.int .i64 n), w, m, ?_, .val (.same rfl), hr, Fr.refl _ _ _⟩
        simp [execOp, hop, resolve, invoke, builtin, hp, Builtin.len_, run_under hT hu, goInt]
      · cases h
    · rename_i t b hat hl
      have hvl := aevals_sound (fun x hx => ht x (by simp [hop, Op.operands, Call.operands, hc] at hx ⊢; exact hx)) hl
      split at h
      · rename_i kt b' o' c' l hk hm
        cases h
        obtain ⟨callee, args, argTypes⟩ := c
        simp only at hc hat hl hvl
        subst hc
        obtain ⟨args⟩ := args
        obtain ⟨argTypes⟩ := argTypes
        simp only at hat hl hvl
        subst hat
        have hargs : ∃ p, args = [p] := by
          have := hvl.1
          simp at this
          match args, this with
          | [p], _ => exact ⟨p, rfl⟩
        obtain ⟨p, rfl⟩ := hargs
        have e0 := hvl.2 0 _ rfl
        simp at e0
        obtain ⟨L, es, hp, _, _, _, _, g1, g2, _⟩ := mapAt_sound hm hr.toRep0 e0
        obtain ⟨kt, et⟩ := kt
        refine ⟨.value (.int .i64 l.length), w, m, ?_, .val (.same rfl), hr, Fr.refl _ _ _⟩
        simp [execOp, hop, resolve, invoke, builtin, hp, Builtin.len_, run_under hT (kts_spec hk), MapKept.run_getObj_map g1, g2, goInt]
      · cases h
    · rename_i mt kt2 x k hat hl
      have hvl := aevals_sound (fun x hx => ht x (by simp [hop, Op.operands, Call.operands, hc] at hx ⊢; exact hx)) hl
      split at h
      · rename_i H2 hd
        cases h
        obtain ⟨callee, args, argTypes⟩ := c
        simp only at hc hat hl hvl
        subst hc
        obtain ⟨args⟩ := args
        obtain ⟨argTypes⟩ := argTypes
        simp only at hat hl hvl
        subst hat
        have hargs : ∃ p q, args = [p, q] := by
          have := hvl.1
          simp at this
          match args, this with
          | [p, q], _ => exact ⟨p, q, rfl⟩
        obtain ⟨p, q, rfl⟩ := hargs
        have e0 := hvl.2 0 _ rfl
        have e1 := hvl.2 1 _ rfl
        simp at e0 e1
        obtain ⟨w', k1, k2, k3⟩ := adelete_sound (ty := o.type) (kt2 := kt2) hT hd hr e0 e1
        refine ⟨.value (.tuple #[]), w', m, ?_, .val (VR.of_closed rfl), k2, k3⟩
        simp [execOp, hop, resolve, invoke, builtin, k1]
      · cases h
    · rename_i t s n c' hat hl
      have hvl := aevals_sound (fun x hx => ht x (by simp [hop, Op.operands, Call.operands, hc] at hx ⊢; exact hx)) hl
      split at h
      · rename_i e H2 hu hd
        cases h
        obtain ⟨callee, args, argTypes⟩ := c
        simp only at hc hat hl hvl
        subst hc
        obtain ⟨args⟩ := args
        obtain ⟨argTypes⟩ := argTypes
        simp only at hat hl hvl
        subst hat
        have hargs : ∃ p, args = [p] := by
          have := hvl.1
          simp at this
          match args, this with
          | [p], _ => exact ⟨p, rfl⟩
        obtain ⟨p, rfl⟩ := hargs
        have e0 := hvl.2 0 _ rfl
        simp at e0
        obtain ⟨w', k1, k2, k3⟩ := aclear_sound (ty := o.type) hT hd hu hr e0
        refine ⟨.value (.tuple #[]), w', m, ?_, .val (VR.of_closed rfl), k2, k3⟩
        simp [execOp, hop, resolve, invoke, builtin, k1]
      · cases h
    · cases h
    · cases h
    · rename_i k x k' y hl
      have hvl := aevals_sound (fun x hx => ht x (by simp [hop, Op.operands, Call.operands, hc] at hx ⊢; exact hx)) hl
      cases h
      obtain ⟨callee, args, argTypes⟩ := c
      simp only at hc hl hvl
      subst hc
      obtain ⟨args⟩ := args
      simp only at hl hvl
      have hargs : ∃ p q, args = [p, q] := by
        have := hvl.1
        simp at this
        match args, this with
        | [p, q], _ => exact ⟨p, q, rfl⟩
      obtain ⟨p, q, rfl⟩ := hargs
      have e0 := hvl.2 0 _ rfl
      have e1 := hvl.2 1 _ rfl
      simp at e0 e1
      have e0 := e0.plain_eq rfl
      have e1 := e1.plain_eq rfl
      refine ⟨_, w, m, ?_, .val (.same rfl), hr, Fr.refl _ _ _⟩
      simp [execOp, hop, resolve, invoke, builtin, e0, e1, Builtin.max_, Builtin.max2]
    · rename_i k x k' y hl
      have hvl := aevals_sound (fun x hx => ht x (by simp [hop, Op.operands, Call.operands, hc] at hx ⊢; exact hx)) hl
      cases h
      obtain ⟨callee, args, argTypes⟩ := c
      simp only at hc hl hvl
      subst hc
      obtain ⟨args⟩ := args
      simp only at hl hvl
      have hargs : ∃ p q, args = [p, q] := by
        have := hvl.1
        simp at this
        match args, this with
        | [p, q], _ => exact ⟨p, q, rfl⟩
      obtain ⟨p, q, rfl⟩ := hargs
      have e0 := hvl.2 0 _ rfl
      have e1 := hvl.2 1 _ rfl
      simp at e0 e1
      have e0 := e0.plain_eq rfl
      have e1 := e1.plain_eq rfl
      refine ⟨_, w, m, ?_, .val (.same rfl), hr, Fr.refl _ _ _⟩
      simp [execOp, hop, resolve, invoke, builtin, e0, e1, Builtin.min_, Builtin.min2]
    · cases h
    · cases h
    · refine good_val (v := undef) h hr fun v hv => ?_
      obtain ⟨h1, h2⟩ := fallback_sound (P := P) (w := w) ht (by rw [hop]; simp) hv
      exact ⟨v, h1, VR.of_closed h2⟩
theorem aop_sound [Bs] (hi : ∀ e x, o.op = .box e x → ∃ i, P.info? e = some i) (h : aop P T tm o H = some (r, H')) (hr : Rep P m H w) (ht : OpRel m tm a o.op.operands.toList) : Good P m H w a o r H' := by
  unfold aop at h
  split at h
  · rename_i x hop
    exact good_val (v := undef) h hr fun v hv => ⟨a.eval x, by simp [execOp, hop], ht _ (by simp [hop, Op.operands]) _ hv⟩
  · rename_i x hop
    exact good_val (v := undef) h hr fun v hv => ⟨a.eval x, by simp [execOp, hop], ht _ (by simp [hop, Op.operands]) _ hv⟩
  · rename_i c x y hop
    split at h
    · rename_i t u v h1 h2 h3
      cases h
      have e1 := (ht _ (by simp [hop, Op.operands]) _ h1).plain_eq rfl
      refine ⟨.value (if t then a.eval x else a.eval y), w, m, by cases t <;> simp [execOp, hop, e1, asBool], ?_, hr, Fr.refl _ _ _⟩
      cases t
      · exact .val (ht _ (by simp [hop, Op.operands]) _ h3)
      · exact .val (ht _ (by simp [hop, Op.operands]) _ h2)
    · cases h
  · rename_i e hop
    split at h
    · rename_i z hz
      cases hc : closed z
      · rw [hc] at h; cases h
      rw [hc] at h
      cases h
      obtain ⟨v', w', m', h1, h2, h3, h4⟩ := (alloc_mk hT m H.n w hz hc).sound hr
      exact ⟨.value v', w', m', by simp [execOp, hop, h1], .val h2, h3, h4⟩
    · cases h
  · rename_i e x hop
    split at h
    · rename_i v hv
      cases h
      obtain ⟨i, hi⟩ := hi e x hop
      obtain ⟨v', w', m', h1, h2, h3, h4⟩ := Mk.sound (box_mk H.n w hi (ht _ (by simp [hop, Op.operands]) _ hv)) hr
      exact ⟨.value v', w', m', by simp [execOp, hop, h1], .val h2, h3, h4⟩
    · cases h
  · rename_i t ps hop
    split at h
    · rename_i l hl
      refine good_val (v := undef) h hr fun v hv => ?_
      have hp := aevalp_sound (fun x hx => ht x (by simpa [hop, Op.operands] using hx)) hl
      obtain ⟨v', h1, h2⟩ := abuild_sound (w := w) hT hv hp
      refine ⟨v', ?_, h2⟩
      have : (ps.map fun x => (x.1, a.eval x.2)) = (ps.toList.map fun p => (p.1, a.eval p.2)).toArray := by apply Array.ext'; simp
      simp only [execOp, hop, this]
      simp [h1]
    · cases h
  · rename_i t n ps hop
    split at h
    · rename_i l hl
      have hp := aevalp_sound (fun x hx => ht x (by simpa [hop, Op.operands] using hx)) hl
      unfold val2 at h
      split at h
      · rename_i v H2 hb
        cases h
        obtain ⟨ob, rfl, hmk⟩ := abuildSlice_mk hT w hb hp
        obtain ⟨v', w', m', h1, h2, h3, h4⟩ := hmk.sound hr
        refine ⟨.value v', w', m', ?_, .val h2, h3, h4⟩
        have : (ps.map fun x => (x.1, a.eval x.2)) = (ps.toList.map fun p => (p.1, a.eval p.2)).toArray := by apply Array.ext'; simp
        simp only [execOp, hop, this]
        simp [h1]
      · cases h
    · cases h
  · rename_i t x hop
    split at h
    · rename_i u hu
      refine good_val (v := undef) h hr fun v hv => ?_
      obtain ⟨v', h1, h2⟩ := aload_sound hT hv hr (ht _ (by simp [hop, Op.operands]) _ hu)
      exact ⟨v', by simp [execOp, hop, h1], h2⟩
    · cases h
  · rename_i t x y hop
    split at h
    · rename_i v u hv hu
      unfold skp at h
      split at h
      · rename_i H2 hst
        cases h
        obtain ⟨w', h1, h2, h3⟩ := astore_sound hT hst hr (ht _ (by simp [hop, Op.operands]) _ hv) (ht _ (by simp [hop, Op.operands]) _ hu)
        exact ⟨.skip, w', m, by simp [execOp, hop, h1], .skip, h2, h3⟩
      · cases h
    · cases h
  · rename_i x hop
    split at h
    · rename_i p hp
      cases h
      have hv := ht _ (by simp [hop, Op.operands]) _ hp
      refine ⟨.value (a.eval x), w, m, ?_, .val hv, hr, Fr.refl _ _ _⟩
      generalize hax : a.eval x = ax at hv
      cases hv with
      | same hpp => simp [plain] at hpp
      | ptr hb => simp [execOp, hop, hax]
    · rename_i f g c hp
      cases h
      have hv := ht _ (by simp [hop, Op.operands]) _ hp
      refine ⟨.value (a.eval x), w, m, ?_, .val hv, hr, Fr.refl _ _ _⟩
      generalize hax : a.eval x = ax at hv
      cases hv with
      | same hpp => simp [plain] at hpp
      | func => simp [execOp, hop, hax]
    · cases h
  · rename_i op t x y yt hop
    split at h
    · rename_i u v hu hv
      refine good_val (v := undef) h hr fun z hz => ?_
      rcases orVal_cases hz with hz | hz
      · obtain ⟨h1, h2⟩ := abin_sound (w := w) hT hz (ht _ (by simp [hop, Op.operands]) _ hu) (ht _ (by simp [hop, Op.operands]) _ hv) x y
        refine ⟨z, ?_, .same h2⟩
        simp only [execOp, hop]
        simp only [Sem.run_bind] at h1 ⊢
        rw [h1]
        simp
      · obtain ⟨h1, h2⟩ := fallback_sound (P := P) (w := w) ht (by rw [hop]; simp) hz
        exact ⟨z, h1, VR.of_closed h2⟩
    · cases h
  · rename_i t x hop
    split at h
    · rename_i b hb
      cases h
      have e1 := (ht _ (by simp [hop, Op.operands]) _ hb).plain_eq rfl
      exact ⟨.value (.bool !b), w, m, by simp [execOp, hop, e1, Op.unary], .val (.same rfl), hr, Fr.refl _ _ _⟩
    · cases h
  · rename_i sr ds x hop
    split at h
    · rename_i v hv
      refine good_val (v := undef) h hr fun z hz => ?_
      rcases orVal_cases hz with hz | hz
      · obtain ⟨h1, h2⟩ := aconvert_sound hT hz hr (ht _ (by simp [hop, Op.operands]) _ hv)
        exact ⟨z, by simp [execOp, hop, h1], .same h2⟩
      · obtain ⟨h1, h2⟩ := fallback_sound (P := P) (w := w) ht (by rw [hop]; simp) hz
        exact ⟨z, h1, VR.of_closed h2⟩
    · cases h
  · rename_i fn fs cs hop
    split at h
    · rename_i l k hl hk
      cases h
      have h1 := aevals_sound (fun x hx => ht x (by simp [hop, Op.operands] at hx ⊢; exact .inl hx)) hl
      have h2 := aevals_sound (fun x hx => ht x (by simp [hop, Op.operands] at hx ⊢; exact .inr hx)) hk
      have g1 : VRs m l.toArray.toList (fs.map a.eval).toList := by simpa using h1
      have g2 : VRs m k.toArray.toList (cs.map a.eval).toList := by simpa using h2
      exact ⟨.value (.func fn (fs.map a.eval) (cs.map a.eval)), w, m, by simp [execOp, hop, Instr.makeFunc], .val (.func g1.arr.1 g1.arr.2 g2.arr.1 g2.arr.2), hr, Fr.refl _ _ _⟩
    · cases h
  · rename_i t x hop
    split at h
    · cases h
    · rename_i v d hnot hv hd
      cases h
      refine ⟨.value (.iface t (a.eval x)), w, m, ?_, .val (.iface (ht _ (by simp [hop, Op.operands]) _ hv)), hr, Fr.refl _ _ _⟩
      have : (Instr.makeInterface t (a.eval x)).run P w = .ok (.iface t (a.eval x)) w := by
        unfold Instr.makeInterface
        rw [Sem.run_bind, run_under hT hd]
        cases d <;> first | rfl | exact absurd rfl (hnot _)
      simp [execOp, hop, this]
    · cases h
  · rename_i t l c hop
    split at h
    · rename_i u v hu hv
      unfold val2 at h
      split at h
      · rename_i x H2 hb
        cases h
        obtain ⟨ob, rfl, hmk⟩ := amakeSlice_mk hT w hb (ht _ (by simp [hop, Op.operands]) _ hu) (ht _ (by simp [hop, Op.operands]) _ hv)
        obtain ⟨v', w', m', h1, h2, h3, h4⟩ := hmk.sound hr
        exact ⟨.value v', w', m', by simp [execOp, hop, h1], .val h2, h3, h4⟩
      · cases h
    · cases h
  · rename_i t x lo hi mx hop
    split at h
    · rename_i v l hh mm hv hl hh' hm
      refine good_val (v := undef) h hr fun z hz => ?_
      rcases orVal_cases hz with hz | hz
      · obtain ⟨v', h1, h2⟩ := aslice_sound (w := w) hT hz (ht _ (by simp [hop, Op.operands]) _ hv) (aevalo_sound (fun x hx => ht x (by simp [hop, Op.operands] at hx ⊢; simp [hx])) hl).1 (aevalo_sound (fun x hx => ht x (by simp [hop, Op.operands] at hx ⊢; simp [hx])) hl).2 (aevalo_sound (fun x hx => ht x (by simp [hop, Op.operands] at hx ⊢; simp [hx])) hh').1 (aevalo_sound (fun x hx => ht x (by simp [hop, Op.operands] at hx ⊢; simp [hx])) hh').2 (aevalo_sound (fun x hx => ht x (by simp [hop, Op.operands] at hx ⊢; simp [hx])) hm).2
        exact ⟨v', by simp [execOp, hop, h1], h2⟩
      · obtain ⟨h1, h2⟩ := fallback_sound (P := P) (w := w) ht (by rw [hop]; simp) hz
        exact ⟨z, h1, VR.of_closed h2⟩
    · cases h
  · rename_i s x f hop
    split at h
    · rename_i v hv
      refine good_val (v := undef) h hr fun z hz => ?_
      obtain ⟨v', h1, h2⟩ := afield_sound (w := w) hT hz (ht _ (by simp [hop, Op.operands]) _ hv)
      exact ⟨v', by simp [execOp, hop, h1], h2⟩
    · cases h
  · rename_i t x f hop
    split at h
    · rename_i cs fields hx hd
      split at h
      · rename_i fd hf
        refine good_val (v := undef) h hr fun z hz => ?_
        have hv := ht _ (by simp [hop, Op.operands]) _ hx
        generalize hax : a.eval x = ax at hv
        cases hv with
        | same hpp => simp [plain] at hpp
        | agg hs hk =>
          rename_i ys
          obtain ⟨v', h1, h2⟩ := apart_sound (w := w) hT hz (VRs.of_arr hs hk)
          exact ⟨v', by simp [execOp, hop, hax, Instr.field, run_under hT hd, hf, asAgg, h1], h2⟩
      · cases h
    · cases h
  · rename_i t x ix hop
    split at h
    · rename_i u v hu hv
      refine good_val (v := undef) h hr fun z hz => ?_
      obtain ⟨v', h1, h2⟩ := aindexAddr_sound (w := w) hT hz (ht _ (by simp [hop, Op.operands]) _ hu) (ht _ (by simp [hop, Op.operands]) _ hv)
      exact ⟨v', by simp [execOp, hop, h1], h2⟩
    · cases h
  · rename_i t x ix hop
    split at h
    · rename_i u v hu hv
      refine good_val (v := undef) h hr fun z hz => ?_
      rcases orVal_cases hz with hz | hz
      · obtain ⟨v', h1, h2⟩ := aindex_sound (w := w) hT hz (ht _ (by simp [hop, Op.operands]) _ hu) (ht _ (by simp [hop, Op.operands]) _ hv)
        exact ⟨v', by simp [execOp, hop, h1], h2⟩
      · obtain ⟨h1, h2⟩ := fallback_sound (P := P) (w := w) ht (by rw [hop]; simp) hz
        exact ⟨z, h1, VR.of_closed h2⟩
    · cases h
  · rename_i x i hop
    split at h
    · rename_i vs hx
      refine good_val (v := undef) h hr fun z hz => ?_
      have hv := ht _ (by simp [hop, Op.operands]) _ hx
      generalize hax : a.eval x = ax at hv
      cases hv with
      | same hpp => simp [plain] at hpp
      | tuple hs hk =>
        rename_i ys
        obtain ⟨y, hy, hvy⟩ := (VRs.of_arr hs hk).2 i z (by simpa using hz)
        simp only [Array.getElem?_toList] at hy
        exact ⟨y, by simp [execOp, hop, hax, Instr.extract, hy], hvy⟩
    · cases h
  · rename_i c hop
    exact acall_sound hT hF hop h hr ht
  · rename_i u t x hnn hop
    refine good_val (v := undef) h hr fun z hz => ?_
    obtain ⟨h1, h2⟩ := fallback_sound (P := P) (w := w) ht (by rw [hop]; simp) hz
    exact ⟨z, h1, VR.of_closed h2⟩
  · exact amap_sound hT h hr ht
end
end Go.Ev
