/- The operations that look at no memory. -/
import Derived.Test.YthmcpmdohmfeiaaGreatDoorEa2
import Derived.Tactics
namespace Go.Ev
open Go
set_option linter.unusedVariables false
set_option linter.unusedSimpArgs false
theorem Heap.push_inj {H : Heap} {o o' : Ob} (h : H.push o = H.push o') : o = o' := by
  have := congrArg (fun H' => H'.get H.n) h
  simpa [Heap.get_push] using this
section
variable {P : Program} {T : Tab} (hT : TabOk P T) (hF : FnsOk P T) {m : Map} {H H' : Heap} {tm : Tr Value} {a : Act} {o : Oper} {r : Res}
def Free (P : Program) (m : Map) (H : Heap) (a : Act) (o : Oper) (r : Res) (H' : Heap) : Prop :=
  (H' = H ∧ ∃ v, r = .val v ∧ ∀ w, ∃ v', (execOp a.eval o).run P w = .ok (.value v') w ∧ VR m v v') ∨
  (∃ ob v, H' = H.push ob ∧ r = .val v ∧ ∀ w, ∃ q, Mk P m H.n w q v ob ∧ (execOp a.eval o).run P w = q.andThen fun v' w' => .ok (.value v') w')
theorem free_val {u : Option Value} (hv : val u H = some (r, H')) (hrun : ∀ w v, u = some v → ∃ v', (execOp a.eval o).run P w = .ok (.value v') w ∧ VR m v v') : Free P m H a o r H' := by
  unfold val at hv
  split at hv
  · cases hv
    exact .inl ⟨rfl, _, rfl, fun w => hrun w _ rfl⟩
  · cases hv
include hT
theorem aconvert_free {w : World} {src dst : TypeId} {x x' v : Value} (hns : ∀ e, T.under src ≠ some (.slice e)) (h : aconvert T src dst x H = some v) (hx : VR m x x') : (Go.convert src dst x').run P w = .ok v w ∧ plain v = true := by
  unfold aconvert at h
  split at h
  · rename_i sd k k' n hs hd
    cases h
    rw [hx.plain_eq rfl]
    refine ⟨?_, rfl⟩
    cases sd <;> simp [Go.convert, run_under hT hs, run_under hT hd, Conv.intToInt]
  · rename_i hs _; exact absurd hs (hns _)
  · rename_i hs _; exact absurd hs (hns _)
  · cases h
theorem acall_free {c : Call} (hcls : cls T (.call c) = .free) (hop : o.op = .call c) (h : acall P T tm o c H = some (r, H')) (ht : OpRel m tm a o.op.operands.toList) : Free P m H a o r H' := by
  unfold acall at h
  split at h
  · rename_i f hc
    simp [cls, hc] at hcls
  · cases h
  · rename_i b hc
    split at h
    · simp [cls, hc] at hcls
    · simp [cls, hc] at hcls
    · rename_i t s n c' hat hl
      have hvl := aevals_sound (fun x hx => ht x (by simp [hop, Op.operands, Call.operands, hc] at hx ⊢; exact hx)) hl
      split at h
      · rename_i e hu
        cases h
        obtain ⟨callee, args, argTypes⟩ := c
        simp only at hc hat hl hvl
        subst hc
        obtain ⟨args⟩ := args
        obtain ⟨argTypes⟩ := argTypes
        simp only at hat hl hvl
        subst hat
        have hargs : ∃ p, args = [p] := by
          have := hvl.1
          simp at this
          match args, this with
          | [p], _ => exact ⟨p, rfl⟩
        obtain ⟨p, rfl⟩ := hargs
        have e0 := hvl.2 0 _ rfl
        simp at e0
        have : ∃ s' c'', a.eval p = .slice s' n c'' := by
          generalize a.eval p = pv at e0
          cases e0 with
          | same => exact ⟨_, _, rfl⟩
          | slice => exact ⟨_, _, rfl⟩
        obtain ⟨s', c'', hp⟩ := this
        refine .inl ⟨rfl, _, rfl, fun w => ⟨.int .i64 n, ?_, .same rfl⟩⟩
        simp [execOp, hop, resolve, invoke, builtin, hp, Builtin.len_, run_under hT hu, goInt]
      · cases h
    · rename_i t b hat hl
      split at h
      · rename_i kt b' o' c' l hk hm
        obtain ⟨kt, et⟩ := kt
        have hu := kts_spec hk
        simp [cls, hc, hat, hu] at hcls
      · cases h
    · simp [cls, hc] at hcls
    · simp [cls, hc] at hcls
    · cases h
    · cases h
    · rename_i k x k' y hl
      have hvl := aevals_sound (fun x hx => ht x (by simp [hop, Op.operands, Call.operands, hc] at hx ⊢; exact hx)) hl
      cases h
      obtain ⟨callee, args, argTypes⟩ := c
      simp only at hc hl hvl
      subst hc
      obtain ⟨args⟩ := args
      simp only at hl hvl
      have hargs : ∃ p q, args = [p, q] := by
        have := hvl.1
        simp at this
        match args, this with
        | [p, q], _ => exact ⟨p, q, rfl⟩
      obtain ⟨p, q, rfl⟩ := hargs
      have e0 := hvl.2 0 _ rfl
      have e1 := hvl.2 1 _ rfl
      simp at e0 e1
      have e0 := e0.plain_eq rfl
      have e1 := e1.plain_eq rfl
      refine .inl ⟨rfl, _, rfl, fun w => ⟨_, ?_, .same rfl⟩⟩
      simp [execOp, hop, resolve, invoke, builtin, e0, e1, Builtin.max_, Builtin.max2]
    · rename_i k x k' y hl
      have hvl := aevals_sound (fun x hx => ht x (by simp [hop, Op.operands, Call.operands, hc] at hx ⊢; exact hx)) hl
      cases h
      obtain ⟨callee, args, argTypes⟩ := c
      simp only at hc hl hvl
      subst hc
      obtain ⟨args⟩ := args
      simp only at hl hvl
      have hargs : ∃ p q, args = [p, q] := by
        have := hvl.1
        simp at this
        match args, this with
        | [p, q], _ => exact ⟨p, q, rfl⟩
      obtain ⟨p, q, rfl⟩ := hargs
      have e0 := hvl.2 0 _ rfl
      have e1 := hvl.2 1 _ rfl
      simp at e0 e1
      have e0 := e0.plain_eq rfl
      have e1 := e1.plain_eq rfl
      refine .inl ⟨rfl, _, rfl, fun w => ⟨_, ?_, .same rfl⟩⟩
      simp [execOp, hop, resolve, invoke, builtin, e0, e1, Builtin.min_, Builtin.min2]
    · cases h
    · cases h
    · refine free_val h fun w v hv => ?_
      obtain ⟨h1, h2⟩ := fallback_sound (P := P) (w := w) ht (by rw [hop]; simp) hv
      exact ⟨v, h1, VR.of_closed h2⟩
theorem free_sound (hcls : cls T o.op = .free) (hi : ∀ e x, o.op = .box e x → ∃ i, P.info? e = some i) (h : aop P T tm o H = some (r, H')) (ht : OpRel m tm a o.op.operands.toList) : Free P m H a o r H' := by
  unfold aop at h
  split at h
  · rename_i x hop
    exact free_val h fun w v hv => ⟨a.eval x, by simp [execOp, hop], ht _ (by simp [hop, Op.operands]) _ hv⟩
  · rename_i x hop
    exact free_val h fun w v hv => ⟨a.eval x, by simp [execOp, hop], ht _ (by simp [hop, Op.operands]) _ hv⟩
  · rename_i c x y hop
    split at h
    · rename_i t u v h1 h2 h3
      cases h
      have e1 := (ht _ (by simp [hop, Op.operands]) _ h1).plain_eq rfl
      refine .inl ⟨rfl, _, rfl, fun w => ⟨if t then a.eval x else a.eval y, by cases t <;> simp [execOp, hop, e1, asBool], ?_⟩⟩
      cases t
      · exact ht _ (by simp [hop, Op.operands]) _ h3
      · exact ht _ (by simp [hop, Op.operands]) _ h2
    · cases h
  · rename_i e hop
    split at h
    · rename_i z hz
      cases hc : closed z
      · rw [hc] at h; cases h
      rw [hc] at h
      cases h
      exact .inr ⟨_, _, rfl, rfl, fun w => ⟨_, alloc_mk hT m H.n w hz hc, by simp [execOp, hop]⟩⟩
    · cases h
  · rename_i e x hop
    split at h
    · rename_i v hv
      cases h
      obtain ⟨i, hi⟩ := hi e x hop
      exact .inr ⟨_, _, rfl, rfl, fun w => ⟨_, box_mk H.n w hi (ht _ (by simp [hop, Op.operands]) _ hv), by simp [execOp, hop]⟩⟩
    · cases h
  · rename_i t ps hop
    split at h
    · rename_i l hl
      refine free_val h fun w v hv => ?_
      have hp := aevalp_sound (fun x hx => ht x (by simpa [hop, Op.operands] using hx)) hl
      obtain ⟨v', h1, h2⟩ := abuild_sound (w := w) hT hv hp
      refine ⟨v', ?_, h2⟩
      have : (ps.map fun x => (x.1, a.eval x.2)) = (ps.toList.map fun p => (p.1, a.eval p.2)).toArray := by apply Array.ext'; simp
      simp only [execOp, hop, this]
      simp [h1]
    · cases h
  · rename_i t n ps hop
    split at h
    · rename_i l hl
      have hp := aevalp_sound (fun x hx => ht x (by simpa [hop, Op.operands] using hx)) hl
      unfold val2 at h
      split at h
      · rename_i v H2 hb
        cases h
        have hex : ∃ ob, H' = H.push ob := by obtain ⟨ob, h1, _⟩ := abuildSlice_mk hT default hb hp; exact ⟨ob, h1⟩
        obtain ⟨ob, rfl⟩ := hex
        refine .inr ⟨ob, _, rfl, rfl, fun w => ⟨(Instr.buildSlice t n (ps.toList.map fun p => (p.1, a.eval p.2)).toArray).run P w, ?_, ?_⟩⟩
        · obtain ⟨ob', h1, h2⟩ := abuildSlice_mk hT w hb hp
          rw [Heap.push_inj h1]; exact h2
        · have : (ps.map fun x => (x.1, a.eval x.2)) = (ps.toList.map fun p => (p.1, a.eval p.2)).toArray := by apply Array.ext'; simp
          simp only [execOp, hop, this]
          simp
      · cases h
    · cases h
  · rename_i t x hop
    rw [hop] at hcls; cases hcls
  · rename_i t x y hop
    rw [hop] at hcls; cases hcls
  · rename_i x hop
    split at h
    · rename_i p hp
      cases h
      have hv := ht _ (by simp [hop, Op.operands]) _ hp
      refine .inl ⟨rfl, _, rfl, fun w => ⟨(a.eval x), ?_, hv⟩⟩
      generalize hax : a.eval x = ax at hv
      cases hv with
      | same hpp => simp [plain] at hpp
      | ptr hb => simp [execOp, hop, hax]
    · rename_i f g c hp
      cases h
      have hv := ht _ (by simp [hop, Op.operands]) _ hp
      refine .inl ⟨rfl, _, rfl, fun w => ⟨(a.eval x), ?_, hv⟩⟩
      generalize hax : a.eval x = ax at hv
      cases hv with
      | same hpp => simp [plain] at hpp
      | func => simp [execOp, hop, hax]
    · cases h
  · rename_i op t x y yt hop
    split at h
    · rename_i u v hu hv
      refine free_val h fun w z hz => ?_
      rcases orVal_cases hz with hz | hz
      · obtain ⟨h1, h2⟩ := abin_sound (w := w) hT hz (ht _ (by simp [hop, Op.operands]) _ hu) (ht _ (by simp [hop, Op.operands]) _ hv) x y
        refine ⟨z, ?_, .same h2⟩
        simp only [execOp, hop]
        simp only [Sem.run_bind] at h1 ⊢
        rw [h1]
        simp
      · obtain ⟨h1, h2⟩ := fallback_sound (P := P) (w := w) ht (by rw [hop]; simp) hz
        exact ⟨z, h1, VR.of_closed h2⟩
    · cases h
  · rename_i t x hop
    split at h
    · rename_i b hb
      cases h
      have e1 := (ht _ (by simp [hop, Op.operands]) _ hb).plain_eq rfl
      exact .inl ⟨rfl, _, rfl, fun w => ⟨(.bool !b), by simp [execOp, hop, e1, Op.unary], (.same rfl)⟩⟩
    · cases h
  · rename_i sr ds x hop
    split at h
    · rename_i v hv
      refine free_val h fun w z hz => ?_
      rcases orVal_cases hz with hz | hz
      · obtain ⟨h1, h2⟩ := aconvert_free hT (fun e he => by rw [hop] at hcls; simp [cls, he] at hcls) hz (ht _ (by simp [hop, Op.operands]) _ hv) (w := w)
        exact ⟨z, by simp [execOp, hop, h1], .same h2⟩
      · obtain ⟨h1, h2⟩ := fallback_sound (P := P) (w := w) ht (by rw [hop]; simp) hz
        exact ⟨z, h1, VR.of_closed h2⟩
    · cases h
  · rename_i fn fs cs hop
    split at h
    · rename_i l k hl hk
      cases h
      have h1 := aevals_sound (fun x hx => ht x (by simp [hop, Op.operands] at hx ⊢; exact .inl hx)) hl
      have h2 := aevals_sound (fun x hx => ht x (by simp [hop, Op.operands] at hx ⊢; exact .inr hx)) hk
      have g1 : VRs m l.toArray.toList (fs.map a.eval).toList := by simpa using h1
      have g2 : VRs m k.toArray.toList (cs.map a.eval).toList := by simpa using h2
      exact .inl ⟨rfl, _, rfl, fun w => ⟨(.func fn (fs.map a.eval) (cs.map a.eval)), by simp [execOp, hop, Instr.makeFunc], (.func g1.arr.1 g1.arr.2 g2.arr.1 g2.arr.2)⟩⟩
    · cases h
  · rename_i t x hop
    split at h
    · cases h
    · rename_i v d hnot hv hd
      cases h
      refine .inl ⟨rfl, _, rfl, fun w => ⟨(.iface t (a.eval x)), ?_, (.iface (ht _ (by simp [hop, Op.operands]) _ hv))⟩⟩
      have : (Instr.makeInterface t (a.eval x)).run P w = .ok (.iface t (a.eval x)) w := by
        unfold Instr.makeInterface
        rw [Sem.run_bind, run_under hT hd]
        cases d <;> first | rfl | exact absurd rfl (hnot _)
      simp [execOp, hop, this]
    · cases h
  · rename_i t l c hop
    split at h
    · rename_i u v hu hv
      unfold val2 at h
      split at h
      · rename_i x H2 hb
        cases h
        have hex : ∃ ob, H' = H.push ob := by obtain ⟨ob, h1, _⟩ := amakeSlice_mk hT default hb (ht _ (by simp [hop, Op.operands]) _ hu) (ht _ (by simp [hop, Op.operands]) _ hv); exact ⟨ob, h1⟩
        obtain ⟨ob, rfl⟩ := hex
        refine .inr ⟨ob, _, rfl, rfl, fun w => ⟨(Instr.makeSlice t (a.eval l) (a.eval c)).run P w, ?_, by simp [execOp, hop]⟩⟩
        obtain ⟨ob', h1, h2⟩ := amakeSlice_mk hT w hb (ht _ (by simp [hop, Op.operands]) _ hu) (ht _ (by simp [hop, Op.operands]) _ hv)
        rw [Heap.push_inj h1]; exact h2
      · cases h
    · cases h
  · rename_i t x lo hi mx hop
    split at h
    · rename_i v l hh mm hv hl hh' hm
      refine free_val h fun w z hz => ?_
      rcases orVal_cases hz with hz | hz
      · obtain ⟨v', h1, h2⟩ := aslice_sound (w := w) hT hz (ht _ (by simp [hop, Op.operands]) _ hv) (aevalo_sound (fun x hx => ht x (by simp [hop, Op.operands] at hx ⊢; simp [hx])) hl).1 (aevalo_sound (fun x hx => ht x (by simp [hop, Op.operands] at hx ⊢; simp [hx])) hl).2 (aevalo_sound (fun x hx => ht x (by simp [hop, Op.operands] at hx ⊢; simp [hx])) hh').1 (aevalo_sound (fun x hx => ht x (by simp [hop, Op.operands] at hx ⊢; simp [hx])) hh').2 (aevalo_sound (fun x hx => ht x (by simp [hop, Op.operands] at hx ⊢; simp [hx])) hm).2
        exact ⟨v', by simp [execOp, hop, h1], h2⟩
      · obtain ⟨h1, h2⟩ := fallback_sound (P := P) (w := w) ht (by rw [hop]; simp) hz
        exact ⟨z, h1, VR.of_closed h2⟩
    · cases h
  · rename_i s x f hop
    split at h
    · rename_i v hv
      refine free_val h fun w z hz => ?_
      obtain ⟨v', h1, h2⟩ := afield_sound (w := w) hT hz (ht _ (by simp [hop, Op.operands]) _ hv)
      exact ⟨v', by simp [execOp, hop, h1], h2⟩
    · cases h
  · rename_i t x f hop
    split at h
    · rename_i cs fields hx hd
      split at h
      · rename_i fd hf
        refine free_val h fun w z hz => ?_
        have hv := ht _ (by simp [hop, Op.operands]) _ hx
        generalize hax : a.eval x = ax at hv
        cases hv with
        | same hpp => simp [plain] at hpp
        | agg hs hk =>
          rename_i ys
          obtain ⟨v', h1, h2⟩ := apart_sound (w := w) hT hz (VRs.of_arr hs hk)
          exact ⟨v', by simp [execOp, hop, hax, Instr.field, run_under hT hd, hf, asAgg, h1], h2⟩
      · cases h
    · cases h
  · rename_i t x ix hop
    split at h
    · rename_i u v hu hv
      refine free_val h fun w z hz => ?_
      obtain ⟨v', h1, h2⟩ := aindexAddr_sound (w := w) hT hz (ht _ (by simp [hop, Op.operands]) _ hu) (ht _ (by simp [hop, Op.operands]) _ hv)
      exact ⟨v', by simp [execOp, hop, h1], h2⟩
    · cases h
  · rename_i t x ix hop
    split at h
    · rename_i u v hu hv
      refine free_val h fun w z hz => ?_
      rcases orVal_cases hz with hz | hz
      · obtain ⟨v', h1, h2⟩ := aindex_sound (w := w) hT hz (ht _ (by simp [hop, Op.operands]) _ hu) (ht _ (by simp [hop, Op.operands]) _ hv)
        exact ⟨v', by simp [execOp, hop, h1], h2⟩
      · obtain ⟨h1, h2⟩ := fallback_sound (P := P) (w := w) ht (by rw [hop]; simp) hz
        exact ⟨z, h1, VR.of_closed h2⟩
    · cases h
  · rename_i x i hop
    split at h
    · rename_i vs hx
      refine free_val h fun w z hz => ?_
      have hv := ht _ (by simp [hop, Op.operands]) _ hx
      generalize hax : a.eval x = ax at hv
      cases hv with
      | same hpp => simp [plain] at hpp
      | tuple hs hk =>
        rename_i ys
        obtain ⟨y, hy, hvy⟩ := (VRs.of_arr hs hk).2 i z (by simpa using hz)
        simp only [Array.getElem?_toList] at hy
        exact ⟨y, by simp [execOp, hop, hax, Instr.extract, hy], hvy⟩
    · cases h
  · rename_i c hop
    exact acall_free hT (by rw [← hop]; exact hcls) hop h ht
  · rename_i u t x hnn hop
    refine free_val h fun w z hz => ?_
    obtain ⟨h1, h2⟩ := fallback_sound (P := P) (w := w) ht (by rw [hop]; simp) hz
    exact ⟨z, h1, VR.of_closed h2⟩
  · rw [amap_act h] at hcls; cases hcls
end
end Go.Ev
/- A region of the evaluator is the model's: the operations one behind the other. -/
namespace Go.Ev
open Go
set_option linter.unusedVariables false
set_option linter.unusedSimpArgs false
/-- Only numbers that were given out are in use. -/
def HWf (H : Heap) : Prop := ∀ b, (H.get b).isSome → b < H.n
theorem HWf.push {H : Heap} (h : HWf H) (o : Ob) : HWf (H.push o) := fun b hb => by
  rw [Heap.get_push] at hb
  rw [Heap.n_push]
  split at hb
  · omega
  · have := h b hb; omega
theorem HWf.kill {H : Heap} (h : HWf H) (x : Nat) : HWf (H.kill x) := fun b hb => by
  rw [Heap.get_kill] at hb
  rw [Heap.n_kill]
  split at hb
  · simp at hb
  · exact h b hb
def Grows (H H' : Heap) : Prop := H.n ≤ H'.n ∧ (HWf H → HWf H')
theorem Grows.refl (H : Heap) : Grows H H := ⟨Nat.le_refl _, id⟩
theorem Grows.trans {a b c : Heap} (h : Grows a b) (k : Grows b c) : Grows a c := ⟨Nat.le_trans h.1 k.1, fun x => k.2 (h.2 x)⟩
theorem Grows.push (H : Heap) (o : Ob) : Grows H (H.push o) := ⟨by simp [Heap.n_push], fun h => h.push o⟩
section
variable (P : Program) (T : Tab) (callf : FuncId → Array Value → Heap → Option (Value × Heap))
/-- What an operation comes to. -/
def Outc (ops : Array Oper) (o : Oper) (s : St) (v : Value) (H' : Heap) : Prop :=
  (awanted ops s.tm o = false ∧ v = undef ∧ H' = s.H) ∨
  (awanted ops s.tm o = true ∧ ∃ r H1, aop P T s.tm o s.H = some (r, H1) ∧
    ((r = .val v ∧ H' = H1) ∨ (r = .skip ∧ v = undef ∧ H' = H1) ∨ ∃ f args, r = .enter f args ∧ callf f args H1 = some (v, H')))
theorem step1_inv {n : Nat} {ops : Array Oper} {o : Oper} {s s' : St} (h : step1 P T n callf ops o s = some s') : ∃ v, Outc P T callf ops o s v s'.H ∧ dput n s.tm o.dst v = some s'.tm := by
  have hfin : ∀ {dst tm v H}, fin n dst tm v H = some s' → s'.H = H ∧ dput n tm dst v = some s'.tm := by
    intro dst tm v H h
    unfold fin at h
    split at h
    · rename_i tm' htm; cases h; exact ⟨rfl, htm⟩
    · cases h
  unfold step1 at h
  cases hw : awanted ops s.tm o
  · rw [hw] at h
    simp only [cond_false] at h
    obtain ⟨h1, h2⟩ := hfin h
    exact ⟨undef, .inl ⟨hw, rfl, h1⟩, h2⟩
  · rw [hw] at h
    simp only [cond_true] at h
    split at h
    · rename_i v H1 ha
      obtain ⟨h1, h2⟩ := hfin h
      exact ⟨v, .inr ⟨hw, _, _, ha, .inl ⟨rfl, h1⟩⟩, h2⟩
    · rename_i H1 ha
      obtain ⟨h1, h2⟩ := hfin h
      exact ⟨undef, .inr ⟨hw, _, _, ha, .inr (.inl ⟨rfl, rfl, h1⟩)⟩, h2⟩
    · rename_i f args H1 ha
      split at h
      · rename_i v H2 hc
        obtain ⟨h1, h2⟩ := hfin h
        exact ⟨v, .inr ⟨hw, _, _, ha, .inr (.inr ⟨f, args, rfl, by rw [h1]; exact hc⟩)⟩, h2⟩
      · cases h
    · cases h
def CallPost [Bs] (P : Program) (m : Map) (H : Heap) (w : World) (v : Value) (H' : Heap) (e : Ending) (w' : World) : Prop :=
  ∃ v' m', e = .returned v' ∧ VR m' v v' ∧ Rep P m' H' w' ∧ Fr m H w m' H' w'
def CallOk [Bs] : Prop := ∀ f args H v H', callf f args H = some (v, H') → HWf H → ∀ m w args', Rep P m H w → VRs m args.toList args'.toList → Calls P f args' w (CallPost P m H w v H')
end
def wpO (P : Program) (ops : Array Oper) (Q : Exit → Act → World → Prop) (o : Oper) (K : Act → World → Prop) (a : Act) (w : World) : Prop :=
  if Region.wanted o (yielded ops a.tmps) then o.wp P a w K Q ∨ (o.asks P a w ∧ LetsOut Q) else K (a.put o.dst undef) w
theorem wpOp_eq {P : Program} {ops : Array Oper} {Q : Exit → Act → World → Prop} {o : Oper} {i : Nat} {K : Act → World → Prop} {a : Act} {w : World} (h : ops[i]? = some o) : wpOp P ops Q i K a w = wpO P ops Q o K a w := by
  unfold wpOp wpO; simp only [h]
section
variable {P : Program} {T : Tab} {callf : FuncId → Array Value → Heap → Option (Value × Heap)}
/-- What each program's operation asks of its types besides. -/
def boxOk (P : Program) (o : Oper) : Prop := ∀ e x, o.op = .box e x → ∃ i, P.info? e = some i
theorem out_sound [Bs] (hT : TabOk P T) (hF : FnsOk P T) (hC : CallOk P callf) {ops : Array Oper} {Q : Exit → Act → World → Prop} {o : Oper} {s : St} {v : Value} {H' : Heap} {m : Map} {a : Act} {w : World} {K : Act → World → Prop}
    (hb : boxOk P o) (ho : Outc P T callf ops o s v H') (ht : OpRel m s.tm a o.op.operands.toList) (hw : Region.wanted o (yielded ops a.tmps) = awanted ops s.tm o) (hr : Rep P m s.H w) (hwf : ∀ r H1, aop P T s.tm o s.H = some (r, H1) → HWf H1)
    (hK : ∀ v' w' m', VR m' v v' → Rep P m' H' w' → Fr m s.H w m' H' w' → K (a.put o.dst v') w') : wpO P ops Q o K a w := by
  unfold wpO
  rw [hw]
  rcases ho with ⟨h1, rfl, rfl⟩ | ⟨h1, r, H1, h2, h3⟩
  · rw [h1]
    exact hK undef w m (VR.of_closed rfl) hr (Fr.refl _ _ _)
  · rw [h1, if_pos rfl]
    obtain ⟨r', w', m', g1, g2, g3, g4⟩ := aop_sound hT hF hb h2 hr ht
    · refine .inl ?_
      unfold Oper.wp
      rw [g1]
      cases g2 with
      | val hv =>
        rcases h3 with ⟨h4, rfl⟩ | ⟨h4, _⟩ | ⟨_, _, h4, _⟩
        · cases h4; exact hK _ _ _ hv g3 g4
        · cases h4
        · cases h4
      | skip =>
        rcases h3 with ⟨h4, _⟩ | ⟨_, rfl, rfl⟩ | ⟨_, _, h4, _⟩
        · cases h4
        · exact hK _ _ _ (VR.of_closed rfl) g3 g4
        · cases h4
      | enter hv =>
        rcases h3 with ⟨h4, _⟩ | ⟨h4, _⟩ | ⟨f, args, h4, h5⟩
        · cases h4
        · cases h4
        · cases h4
          refine (hC _ _ _ _ _ h5 (hwf _ _ h2) m' w' _ g3 hv).mono fun e w'' he => ?_
          obtain ⟨v', m'', rfl, k1, k2, k3⟩ := he
          exact hK v' w'' m'' k1 k2 (g4.trans hr k3)
/-- The guard. -/
theorem awanted_eq {m : Map} {ops : Array Oper} {o : Oper} {tm : Tr Value} {arr : Array Value} (h : ∀ g want, o.guard = some (g, want) → ∀ d, (ops[g]?).bind (·.dst) = some d → VR m ((tm.get d).getD undef) (arr.getD d undef)) :
    Region.wanted o (yielded ops arr) = awanted ops tm o := by
  unfold Region.wanted awanted
  cases hg : o.guard with
  | none => rfl
  | some gw =>
    obtain ⟨g, want⟩ := gw
    unfold yielded
    cases hd : (ops[g]?).bind (·.dst) with
    | none => simp [hd]
    | some d =>
      have hv := h g want hg d hd
      simp only [hd, Option.bind_some]
      cases ht : tm.get d with
      | none =>
        rw [ht] at hv
        simp only [Option.getD_none] at hv
        have h2 := hv.closed_eq rfl
        have h3 : arr[d]? = none ∨ arr[d]? = some undef := by
          cases he : arr[d]? with
          | none => exact .inl rfl
          | some x => simp [he] at h2; exact .inr (by rw [h2])
        rcases h3 with h3 | h3 <;> rw [h3] <;> rfl
      | some x =>
        rw [ht] at hv
        simp only [Option.getD_some] at hv
        by_cases hbx : ∃ b, x = .bool b
        · obtain ⟨b, rfl⟩ := hbx
          have h2 := hv.plain_eq rfl
          have h3 : arr[d]? = some (.bool b) := by
            cases he : arr[d]? with
            | none => simp [he, undef] at h2
            | some y => simp [he] at h2; rw [h2]
          rw [h3]
          cases b <;> cases want <;> rfl
        · have h4 : ∀ b, arr[d]? ≠ some (.bool b) := by
            intro b he
            simp only [Array.getD_eq_getD_getElem?, he, Option.getD_some] at hv
            cases hv with
            | same => exact hbx ⟨_, rfl⟩
          clear hv
          cases x with
          | bool b => exact absurd ⟨b, rfl⟩ hbx
          | _ =>
            cases he : arr[d]? with
            | none => rfl
            | some y =>
              cases y with
              | bool b => exact absurd he (h4 b)
              | _ => rfl
theorem TmRel.wanted {m : Map} {ops : Array Oper} {o : Oper} {tm : Tr Value} {arr : Array Value} (h : TmRel m tm arr) : Region.wanted o (yielded ops arr) = awanted ops tm o :=
  awanted_eq fun _ _ _ d _ => h d
theorem dput_rel {m : Map} {n : Nat} {tm tm' : Tr Value} {a : Act} {dst : Option Tmp} {v v' : Value} (h : dput n tm dst v = some tm') (hn : a.tmps.size = n) (ht : TmRel m tm a.tmps) (hv : VR m v v') :
    TmRel m tm' (a.put dst v').tmps ∧ (a.put dst v').tmps.size = n ∧ (a.put dst v').defers = a.defers := by
  unfold dput at h
  cases dst with
  | none => cases h; exact ⟨ht, hn, rfl⟩
  | some d =>
    simp only at h
    cases hd : d.blt n
    · rw [hd] at h; cases h
    · rw [hd] at h
      cases h
      have hlt : d < a.tmps.size := by rw [hn]; simpa [Nat.blt_eq] using hd
      refine ⟨fun t => ?_, by simp [Act.put, hn], rfl⟩
      rw [Tr.get_put]
      simp only [Act.put, Array.getD_eq_getD_getElem?, Array.getElem?_setIfInBounds]
      by_cases e : d = t
      · subst e
        simp [hlt, hv]
      · rw [if_neg (Ne.symm e), if_neg e]
        have := ht t
        simpa [Array.getD_eq_getD_getElem?] using this
end
end Go.Ev
/- Of the evaluator alone: what operations do to memory; which orders of a region there are. -/
namespace Go.Ev
open Go
set_option linter.unusedVariables false
set_option linter.unusedSimpArgs false
theorem val_H {u : Option Value} {H H' : Heap} {r : Res} (h : val u H = some (r, H')) : H' = H := by
  unfold val at h; split at h <;> cases h; rfl
theorem val2_H {u : Option (Value × Heap)} {H' : Heap} {r : Res} (h : val2 u = some (r, H')) : ∃ v, u = some (v, H') := by
  unfold val2 at h; split at h
  · cases h; exact ⟨_, rfl⟩
  · cases h
theorem aput_n {b off : Nat} {cs : List Value} {H H' : Heap} (h : aput b off cs H = some H') : Grows H H' := by
  unfold aput at h
  split at h
  · rename_i o ho
    cases hc : (!o.ro && cs.all one && (off + cs.length).ble o.cells.length) <;> rw [hc] at h <;> cases h
    refine ⟨Nat.le_refl _, fun hw x hx => ?_⟩
    rw [Heap.get_put] at hx
    split at hx
    · rename_i e; subst e; exact hw x (by simp [ho])
    · exact hw x hx
  · cases h
theorem mput_n {H : Heap} {b : Nat} {o : Ob} (ho : H.get b = some o) (cs : List Value) : Grows H (H.put b ⟨cs, o.elem, false⟩) := by
  refine ⟨Nat.le_refl _, fun hw x hx => ?_⟩
  rw [Heap.get_put] at hx
  split at hx
  · rename_i e; subst e; exact hw x (by simp [ho])
  · exact hw x hx
theorem aupdate_n {P : Program} {T : Tab} {t : TypeId} {u i z : Value} {H H' : Heap} (h : aupdate P T t u i z H = some H') : Grows H H' := by
  unfold aupdate at h
  split at h
  · rename_i kt et b o c l hk hm
    obtain ⟨_, ho, _⟩ := mapAt_spec hm
    cases hc : (o.ro || !mkey P kt i) <;> rw [hc] at h
    · simp only [cond_false] at h
      split at h
      · cases h; exact mput_n ho _
      · cases h; exact mput_n ho _
      · cases h
    · cases h
  · cases h
theorem aentry_n {P : Program} {T : Tab} {t : TypeId} {u i r : Value} {H H' : Heap} (h : aentry P T t u i H = some (r, H')) : Grows H H' := by
  unfold aentry at h
  split at h
  · rename_i kt et b o c l hk hm
    obtain ⟨_, ho, _⟩ := mapAt_spec hm
    cases hc : (o.ro || !mkey P kt i) <;> rw [hc] at h
    · simp only [cond_false] at h
      split at h
      · cases h; exact mput_n ho _
      · rename_i z _ _
        cases hz : closed z <;> rw [hz] at h
        · cases h
        · cases h; exact mput_n ho _
      · cases h
    · cases h
  · cases h
theorem adelete_n {P : Program} {T : Tab} {t : TypeId} {u i : Value} {H H' : Heap} (h : adelete P T t u i H = some H') : Grows H H' := by
  unfold adelete at h
  split at h
  · rename_i kt et b o c l hk hm
    obtain ⟨_, ho, _⟩ := mapAt_spec hm
    cases hc : (o.ro || !mkey P kt i) <;> rw [hc] at h
    · simp only [cond_false] at h
      split at h
      · cases h; exact mput_n ho _
      · cases h; exact mput_n ho _
      · cases h
    · cases h
  · cases h
theorem aestore_n {u s z : Value} {H H' : Heap} (h : aestore u s z H = some H') : Grows H H' := by
  unfold aestore at h
  split at h
  · rename_i b o c l k n hm
    obtain ⟨_, ho, _⟩ := mapAt_spec hm
    cases hc : o.ro <;> rw [hc] at h
    · simp only [cond_false] at h
      split at h
      · cases h; exact mput_n ho _
      · cases h
    · cases h
  · cases h
theorem arange_n {T : Tab} {t : TypeId} {u r : Value} {H H' : Heap} (h : arange T t u H = some (r, H')) : Grows H H' := by
  unfold arange at h
  split at h
  · cases h; exact Grows.push _ _
  · cases h
theorem iterAt_spec {u : Value} {H : Heap} {i b s q : Nat} {o : Ob} {l : List Nat} (h : iterAt u H = some (i, o, b, s, q, l)) : u = .chan (some i) ∧ H.get i = some o ∧ o.cells = icells b s q l := by
  unfold iterAt at h
  split at h
  · split at h
    · rename_i o' ho
      split at h
      · rename_i hp
        cases h
        exact ⟨rfl, ho, iparse_spec hp⟩
      · cases h
    · cases h
  · cases h
theorem anext_n {u r : Value} {H H' : Heap} (h : anext u H = some (r, H')) : Grows H H' := by
  unfold anext at h
  split at h
  · rename_i i io b since q seen hi
    obtain ⟨_, ho, _⟩ := iterAt_spec hi
    split at h
    · rename_i b' o' c l hm
      cases hc : (Nat.ble since q && l.all fun e => Nat.blt e.2.2 since) <;> rw [hc] at h
      · cases h
      · simp only [cond_true] at h
        split at h
        · cases h; exact Grows.refl _
        · cases h; exact mput_n ho _
        · cases h
    · cases h
  · cases h
theorem aclear_n {T : Tab} {t : TypeId} {A : Option Addr} {n : Nat} {H H' : Heap} (h : aclear T t A n H = some H') : Grows H H' := by
  unfold aclear at h
  split at h
  · cases h; exact Grows.refl _
  · split at h
    · split at h
      · rename_i z _
        cases hz : closed z <;> rw [hz] at h
        · cases h
        · exact aput_n h
      · cases h
    · cases h
theorem amap_n {P : Program} {T : Tab} {tm : Tr Value} {o : Oper} {H H' : Heap} {r : Res} (h : amap P T tm o H = some (r, H')) : Grows H H' := by
  unfold amap at h
  split at h
  · cases h; exact Grows.push _ _
  · split at h
    · rw [val_H h]; exact Grows.refl _
    · cases h
  · split at h
    · unfold skp at h
      split at h
      · rename_i hs; cases h; exact aupdate_n hs
      · cases h
    · cases h
  · split at h
    · obtain ⟨_, hs⟩ := val2_H h; exact aentry_n hs
    · cases h
  · split at h
    · unfold skp at h
      split at h
      · rename_i hs; cases h; exact aestore_n hs
      · cases h
    · cases h
  · split at h
    · obtain ⟨_, hs⟩ := val2_H h; exact arange_n hs
    · cases h
  · split at h
    · obtain ⟨_, hs⟩ := val2_H h; exact anext_n hs
    · cases h
  · split at h
    · rw [val_H h]; exact Grows.refl _
    · cases h
  · cases h
theorem astore_n {T : Tab} {t : TypeId} {u x : Value} {H H' : Heap} (h : astore T t u x H = some H') : Grows H H' := by
  unfold astore at h
  split at h
  · split at h
    · rename_i n hn
      cases hc : x.cells.size.beq n <;> rw [hc] at h
      · cases h
      · exact aput_n h
    · cases h
  · cases h
theorem aappend_n {T : Tab} {st xt : TypeId} {s x v : Value} {H H' : Heap} (h : aappend T st xt s x H = some (v, H')) : Grows H H' := by
  unfold aappend at h
  split at h
  · rename_i xd _ _ _ _ _
    cases hc : isIntD xd <;> rw [hc] at h <;> simp only [cond_false, cond_true] at h
    · split at h
      · split at h
        · rename_i n new _
          split at h
          · rename_i len cap _ _ _ _
            repeat' first
              | (cases h; done)
              | (cases h; exact Grows.push _ _)
              | (cases h; exact Grows.refl _)
              | (revert h; generalize (Nat.beq _ _ && Nat.beq _ _) = b1; intro h; cases b1 <;> simp only [cond_false, cond_true] at h)
              | (revert h; generalize Nat.beq _ _ = b1; intro h; cases b1 <;> simp only [cond_false, cond_true] at h)
              | (revert h; generalize Nat.ble _ _ = b1; intro h; cases b1 <;> simp only [cond_false, cond_true] at h)
          · revert h; generalize (blockOf x == some _) = b1; intro h; cases b1 <;> simp only [cond_false, cond_true] at h
            · split at h
              · rename_i o ho
                revert h; generalize o.ro = b2; intro h; cases b2 <;> simp only [cond_false, cond_true] at h
                · revert h; generalize unk.ble _ = b3; intro h; cases b3 <;> simp only [cond_false, cond_true] at h
                  · revert h; generalize (Nat.beq _ 0 && Nat.beq _ 0 && Nat.beq n 0) = b9; intro h; cases b9 <;> simp only [cond_false, cond_true] at h
                    · revert h; generalize Nat.ble (_ + n) _ = b4; intro h; cases b4 <;> simp only [cond_false, cond_true] at h
                      · revert h; generalize Nat.beq n 0 = b5; intro h; cases b5 <;> simp only [cond_false, cond_true] at h
                        · revert h; generalize (Nat.ble _ _ && _) = b6; intro h; cases b6 <;> simp only [cond_false, cond_true] at h <;> cases h
                          exact Grows.push _ _
                        · cases h
                      · split at h
                        · rename_i H2 hp; cases h; exact aput_n hp
                        · cases h
                    · revert h; generalize (Nat.beq o.elem _ && _) = b8; intro h; cases b8 <;> simp only [cond_false, cond_true] at h
                      · cases h
                      · cases h; exact Grows.refl _
                  · revert h; generalize Nat.beq o.elem _ = b4; intro h; cases b4 <;> simp only [cond_false, cond_true] at h
                    · cases h
                    · revert h; generalize Nat.beq n 0 = b5; intro h; cases b5 <;> simp only [cond_false, cond_true] at h
                      · revert h; generalize (Nat.ble _ _ && _ && _) = b6; intro h; cases b6 <;> simp only [cond_false, cond_true] at h <;> cases h
                        exact Grows.trans (b := H.kill _) ⟨Nat.le_refl _, fun h => h.kill _⟩ (Grows.push _ _)
                      · cases h; exact Grows.refl _
                · cases h
              · cases h
            · cases h
          · cases h
        · cases h
      · cases h
    · cases h
  · cases h
theorem acopy_n {T : Tab} {dt : TypeId} {d x v : Value} {H H' : Heap} (h : acopy T dt d x H = some (v, H')) : Grows H H' := by
  unfold acopy at h
  split at h
  · split at h
    · split at h
      · cases h; exact Grows.refl _
      · split at h
        · split at h
          · rename_i hp; cases h; exact aput_n hp
          · cases h
        · cases h
      · cases h
    · cases h
  · cases h
theorem abuildSlice_H {T : Tab} {t : TypeId} {n : Nat} {ps : List (Nat × Value)} {v : Value} {H H' : Heap} (h : abuildSlice T t n ps H = some (v, H')) : ∃ ob, H' = H.push ob := by
  unfold abuildSlice at h
  split at h
  · split at h
    · rename_i s z _ _
      revert h; generalize (Nat.ble _ _ && closed z && _) = b1; intro h; cases b1 <;> simp only [cond_false, cond_true] at h
      · cases h
      · split at h
        · cases h; exact ⟨_, rfl⟩
        · cases h
    · cases h
  · cases h
theorem amakeSlice_H {T : Tab} {t : TypeId} {l c : Value} {v : Value} {H H' : Heap} (h : amakeSlice T t l c H = some (v, H')) : ∃ ob, H' = H.push ob := by
  unfold amakeSlice at h
  split at h
  · split at h
    · rename_i z _ _ _
      revert h; generalize (Nat.ble _ _ && _ && _ && closed z) = b1; intro h; cases b1 <;> simp only [cond_false, cond_true] at h <;> cases h
      exact ⟨_, rfl⟩
    · cases h
  · cases h
section
variable {P : Program} {T : Tab} {tm : Tr Value} {o : Oper} {H H' : Heap} {r : Res}
theorem aop_heap (h : aop P T tm o H = some (r, H')) : (cls T o.op = .act ∧ Grows H H') ∨ H' = H ∨ (cls T o.op = .free ∧ ∃ ob, H' = H.push ob) := by
  unfold aop at h
  split at h
  · exact .inr (.inl (val_H h))
  · exact .inr (.inl (val_H h))
  · split at h <;> cases h
    exact .inr (.inl rfl)
  · rename_i e hop
    split at h
    · rename_i z hz
      cases hc : closed z <;> rw [hc] at h <;> cases h
      exact .inr (.inr ⟨by rw [hop]; rfl, _, rfl⟩)
    · cases h
  · rename_i e x hop
    split at h <;> cases h
    exact .inr (.inr ⟨by rw [hop]; rfl, _, rfl⟩)
  · split at h
    · exact .inr (.inl (val_H h))
    · cases h
  · rename_i t n ps hop
    split at h
    · obtain ⟨v, hv⟩ := val2_H h
      exact .inr (.inr ⟨by rw [hop]; rfl, abuildSlice_H hv⟩)
    · cases h
  · split at h
    · exact .inr (.inl (val_H h))
    · cases h
  · rename_i t x y hop
    split at h
    · unfold skp at h
      split at h
      · rename_i hs; cases h; exact .inl ⟨by rw [hop]; rfl, astore_n hs⟩
      · cases h
    · cases h
  · split at h <;> cases h <;> exact .inr (.inl rfl)
  · split at h
    · exact .inr (.inl (val_H h))
    · cases h
  · split at h <;> cases h
    exact .inr (.inl rfl)
  · split at h
    · exact .inr (.inl (val_H h))
    · cases h
  · split at h <;> cases h
    exact .inr (.inl rfl)
  · split at h <;> cases h
    exact .inr (.inl rfl)
  · rename_i t l c hop
    split at h
    · obtain ⟨v, hv⟩ := val2_H h
      exact .inr (.inr ⟨by rw [hop]; rfl, amakeSlice_H hv⟩)
    · cases h
  · split at h
    · exact .inr (.inl (val_H h))
    · cases h
  · split at h
    · exact .inr (.inl (val_H h))
    · cases h
  · split at h
    · split at h
      · exact .inr (.inl (val_H h))
      · cases h
    · cases h
  · split at h
    · exact .inr (.inl (val_H h))
    · cases h
  · split at h
    · exact .inr (.inl (val_H h))
    · cases h
  · split at h
    · exact .inr (.inl (val_H h))
    · cases h
  · rename_i c hop
    unfold acall at h
    split at h
    · rename_i f hc
      split at h
      · split at h <;> cases h
        exact .inr (.inl rfl)
      · cases h
    · cases h
    · rename_i b hc
      split at h
      · obtain ⟨v, hv⟩ := val2_H h
        exact .inl ⟨by rw [hop]; simp [cls, hc], aappend_n hv⟩
      · obtain ⟨v, hv⟩ := val2_H h
        exact .inl ⟨by rw [hop]; simp [cls, hc], acopy_n hv⟩
      · split at h <;> cases h
        exact .inr (.inl rfl)
      · split at h <;> cases h
        exact .inr (.inl rfl)
      · split at h
        · rename_i hs; cases h; exact .inl ⟨by rw [hop]; simp [cls, hc], adelete_n hs⟩
        · cases h
      · split at h
        · rename_i hu hs; cases h; exact .inl ⟨by rw [hop]; simp [cls, hc], aclear_n hs⟩
        · cases h
      · cases h
      · cases h
      · cases h; exact .inr (.inl rfl)
      · cases h; exact .inr (.inl rfl)
      · cases h
      · cases h
      · exact .inr (.inl (val_H h))
  · exact .inr (.inl (val_H h))
  · exact .inl ⟨amap_act h, amap_n h⟩
end
theorem aop_grows {P : Program} {T : Tab} {tm : Tr Value} {o : Oper} {H H' : Heap} {r : Res} (h : aop P T tm o H = some (r, H')) : Grows H H' := by
  rcases aop_heap h with ⟨_, h⟩ | rfl | ⟨_, ob, rfl⟩
  · exact h
  · exact Grows.refl _
  · exact Grows.push _ _
theorem enter_act {P : Program} {T : Tab} {tm : Tr Value} {o : Oper} {H H' : Heap} {f : FuncId} {args : Array Value} (h : aop P T tm o H = some (.enter f args, H')) : cls T o.op = .act := by
  have hval : ∀ {u : Option Value}, val u H = some (.enter f args, H') → False := fun h => by unfold val at h; split at h <;> cases h
  have hval2 : ∀ {u : Option (Value × Heap)}, val2 u = some (.enter f args, H') → False := fun h => by unfold val2 at h; split at h <;> cases h
  unfold aop at h
  split at h
  case h_4 e hop =>
    split at h
    · rename_i z hz
      cases hc : closed z <;> rw [hc] at h <;> cases h
    · cases h
  case h_23 c hop =>
    unfold acall at h
    split at h
    · rename_i g hc; rw [hop]; simp [cls, hc]
    · cases h
    · split at h
      · exact (hval2 h).elim
      · exact (hval2 h).elim
      · split at h <;> cases h
      · split at h <;> cases h
      · split at h <;> cases h
      · split at h <;> cases h
      · cases h
      · cases h
      · cases h
      · cases h
      · cases h
      · cases h
      · exact (hval h).elim
  all_goals first
    | exact amap_act h
    | exact (hval h).elim
    | (split at h <;> first | exact (hval h).elim | exact (hval2 h).elim | (cases h; done) | (split at h <;> first | exact (hval h).elim | (cases h; done)) | (unfold skp at h; split at h <;> cases h))
    | (cases h; done)
/-! Orders -/
def binds (e : Edge) : Bool := Region.binds .any e
theorem before_spec (ops : Array Oper) (j i : Nat) (h : ((Region.before ops).getD j 0).testBit i = true) :
    ∃ o, ops[j]? = some o ∧ ∃ e ∈ o.after, binds e = true ∧ (e.on = i ∨ (e.on < j ∧ ((Region.before ops).getD e.on 0).testBit i = true)) := by
  have gen : ∀ (l : List Oper) (acc : Array Nat), (∀ j i, (acc.getD j 0).testBit i = true → ∃ o, ops[j]? = some o ∧ ∃ e ∈ o.after, binds e = true ∧ (e.on = i ∨ (e.on < j ∧ (acc.getD e.on 0).testBit i = true))) →
      (∀ k, l[k]? = ops[acc.size + k]?) →
      ∀ j i, ((l.foldl (fun acc o => acc.push (o.after.foldl (fun s e => if Region.binds .any e then s ||| 2 ^ e.on ||| acc.getD e.on 0 else s) 0)) acc).getD j 0).testBit i = true →
        ∃ o, ops[j]? = some o ∧ ∃ e ∈ o.after, binds e = true ∧ (e.on = i ∨ (e.on < j ∧ ((l.foldl (fun acc o => acc.push (o.after.foldl (fun s e => if Region.binds .any e then s ||| 2 ^ e.on ||| acc.getD e.on 0 else s) 0)) acc).getD e.on 0).testBit i = true)) := by
    intro l
    induction l with
    | nil => intro acc h1 _ j i h; exact h1 j i h
    | cons o l ih =>
      intro acc h1 h2 j i h
      simp only [List.foldl_cons] at h ⊢
      refine ih (acc.push (o.after.foldl (fun s e => if Region.binds .any e then s ||| 2 ^ e.on ||| acc.getD e.on 0 else s) 0)) (fun j i hj => ?_) (fun k => ?_) j i h
      · have ho : ops[acc.size]? = some o := by have := h2 0; simpa using this.symm
        have hpush : ∀ x, x < acc.size → (acc.push (o.after.foldl (fun s e => if Region.binds .any e then s ||| 2 ^ e.on ||| acc.getD e.on 0 else s) 0)).getD x 0 = acc.getD x 0 := fun x hx => by
          simp [Array.getD_eq_getD_getElem?, Array.getElem?_push, show ¬ x = acc.size by omega]
        have hbit : ∀ x i, (acc.getD x 0).testBit i = true → x < acc.size := fun x i hx => by
          rcases Nat.lt_or_ge x acc.size with h | h
          · exact h
          · simp [Array.getD_eq_getD_getElem?, Array.getElem?_eq_none h] at hx
        by_cases hjs : j < acc.size
        · rw [hpush j hjs] at hj
          obtain ⟨o', h3, e, h4, h5, h6⟩ := h1 j i hj
          refine ⟨o', h3, e, h4, h5, ?_⟩
          rcases h6 with h6 | ⟨h6, h7⟩
          · exact .inl h6
          · exact .inr ⟨h6, by rw [hpush _ (hbit _ _ h7)]; exact h7⟩
        · have hje : j = acc.size := by
            rcases Nat.lt_or_ge acc.size j with h | h
            · simp [Array.getD_eq_getD_getElem?, Array.getElem?_push, show ¬ j = acc.size by omega, Array.getElem?_eq_none (show acc.size ≤ j by omega)] at hj
            · omega
          subst hje
          refine ⟨o, ho, ?_⟩
          have hval : (acc.push (o.after.foldl (fun s e => if Region.binds .any e then s ||| 2 ^ e.on ||| acc.getD e.on 0 else s) 0)).getD acc.size 0 = o.after.foldl (fun s e => if Region.binds .any e then s ||| 2 ^ e.on ||| acc.getD e.on 0 else s) 0 := by
            simp [Array.getD_eq_getD_getElem?]
          rw [hval] at hj
          have inner : ∀ (es : List Edge) (s : Nat), (es.foldl (fun s e => if Region.binds .any e then s ||| 2 ^ e.on ||| acc.getD e.on 0 else s) s).testBit i = true →
              s.testBit i = true ∨ ∃ e ∈ es, binds e = true ∧ (e.on = i ∨ (acc.getD e.on 0).testBit i = true) := by
            intro es
            induction es with
            | nil => intro s h; exact .inl h
            | cons e es ih =>
              intro s h
              simp only [List.foldl_cons] at h
              rcases ih _ h with h | ⟨e', h8, h9⟩
              · by_cases hb : Region.binds .any e = true
                · rw [if_pos hb] at h
                  simp only [Nat.testBit_or, Bool.or_eq_true, Nat.testBit_two_pow, decide_eq_true_eq] at h
                  rcases h with (h | h) | h
                  · exact .inl h
                  · exact .inr ⟨e, by simp, hb, .inl h⟩
                  · exact .inr ⟨e, by simp, hb, .inr h⟩
                · rw [if_neg hb] at h; exact .inl h
              · exact .inr ⟨e', by simp [h8], h9⟩
          rw [← Array.foldl_toList] at hj
          rcases inner _ _ hj with h | ⟨e, h8, h9, h10⟩
          · simp at h
          · refine ⟨e, by simpa using h8, h9, ?_⟩
            rcases h10 with h10 | h10
            · exact .inl h10
            · exact .inr ⟨hbit _ _ h10, by rw [hpush _ (hbit _ _ h10)]; exact h10⟩
      · have := h2 (k + 1)
        simp only [List.getElem?_cons_succ] at this
        rw [this]
        congr 1
        simp; omega
  have := gen ops.toList #[] (fun j i h => by simp at h) (fun k => by simp) j i
  unfold Region.before at h ⊢
  rw [← Array.foldl_toList] at h ⊢
  exact this h
/-- What is listed is listed with all that comes ahead of it. -/
def Closed (ops : Array Oper) (L : Array Bool) : Prop := ∀ j o, ops[j]? = some o → L.getD j false = true → ∀ e ∈ o.after, binds e = true → L.getD e.on false = true
theorem closed_before {ops : Array Oper} {L : Array Bool} (hc : Closed ops L) : ∀ (j i : Nat), (∀ o, ops[j]? = some o → ∀ e ∈ o.after, binds e = true → L.getD e.on false = true) →
    ((Region.before ops).getD j 0).testBit i = true → L.getD i false = true := by
  intro j
  induction j using Nat.strongRecOn with
  | _ j ih =>
    intro i hl hb
    obtain ⟨o, ho, e, he, hbe, h⟩ := before_spec ops j i hb
    have h1 := hl o ho e he hbe
    rcases h with rfl | ⟨h2, h3⟩
    · exact h1
    · exact ih e.on h2 i (fun o' ho' => hc e.on o' ho' h1) h3
def ordered (b : Array Nat) (i j : Nat) : Bool := bif i.blt j then (b.getD j 0).testBit i else (b.getD i 0).testBit j
def isAct (T : Tab) (o : Oper) : Bool := match cls T o.op with | .act => true | _ => false
def pairOk (T : Tab) (ops : Array Oper) (b : Array Nat) (i j : Nat) (oi oj : Oper) : Bool :=
  (match oi.dst with | some d => bif (oj.looksAt ops).contains d then !(i.beq j) && ordered b i j else true | none => true) &&
  (i.beq j || ((match oi.dst with | some d => oj.dst != some d | none => true) && (!(isAct T oi && isAct T oj) || ordered b i j)))
def drawOk (T : Tab) (ops : Array Oper) : Bool :=
  (List.range ops.size).all fun j => match ops[j]? with
    | none => true
    | some oj => oj.after.toList.all (fun e => !binds e || e.on.blt j) && (List.range ops.size).all fun i => match ops[i]? with
      | none => true
      | some oi => pairOk T ops (Region.before ops) i j oi oj
structure DrawOk (T : Tab) (ops : Array Oper) : Prop where
  edge : ∀ (j : Nat) (o : Oper), ops[j]? = some o → ∀ e ∈ o.after, binds e = true → e.on < j
  look : ∀ (i j : Nat) (oi oj : Oper) (d : Tmp), ops[i]? = some oi → ops[j]? = some oj → oi.dst = some d → d ∈ oj.looksAt ops → i ≠ j ∧ ordered (Region.before ops) i j = true
  dst : ∀ (i j : Nat) (oi oj : Oper) (d : Tmp), i ≠ j → ops[i]? = some oi → ops[j]? = some oj → oi.dst = some d → oj.dst ≠ some d
  act : ∀ (i j : Nat) (oi oj : Oper), i ≠ j → ops[i]? = some oi → ops[j]? = some oj → cls T oi.op = .act → cls T oj.op = .act → ordered (Region.before ops) i j = true
theorem drawOk_spec {T : Tab} {ops : Array Oper} (h : drawOk T ops = true) : DrawOk T ops := by
  have hlt : ∀ {j : Nat} {o : Oper}, ops[j]? = some o → j < ops.size := fun h => (Array.getElem?_eq_some_iff.1 h).1
  have h1 : ∀ j oj, ops[j]? = some oj → (oj.after.toList.all (fun e => !binds e || e.on.blt j)) = true ∧ ∀ i oi, ops[i]? = some oi → pairOk T ops (Region.before ops) i j oi oj = true := by
    intro j oj hj
    have := List.all_eq_true.1 h j (by simpa using hlt hj)
    simp only [hj, Bool.and_eq_true] at this
    refine ⟨this.1, fun i oi hi => ?_⟩
    have h2 := List.all_eq_true.1 this.2 i (by simpa using hlt hi)
    simpa only [hi] using h2
  refine ⟨fun j o hj e he hb => ?_, fun i j oi oj d hi hj hd hl => ?_, fun i j oi oj d hne hi hj hd => ?_, fun i j oi oj hne hi hj ha hb => ?_⟩
  · have := List.all_eq_true.1 (h1 j o hj).1 e (by simpa using he)
    simpa [hb, Nat.blt_eq] using this
  · have := (h1 j oj hj).2 i oi hi
    unfold pairOk at this
    simp only [Bool.and_eq_true] at this
    have h2 := this.1
    simp only [hd, List.contains_iff_mem.2 hl, cond_true, Bool.and_eq_true, Bool.not_eq_true'] at h2
    exact ⟨fun e => by rw [e] at h2; simp at h2, h2.2⟩
  · have := (h1 j oj hj).2 i oi hi
    unfold pairOk at this
    have hb : i.beq j = false := by
      cases hq : i.beq j
      · rfl
      · exact absurd (Nat.eq_of_beq_eq_true hq) hne
    simp only [Bool.and_eq_true, hb, Bool.false_or, hd] at this
    simpa using this.2.1
  · have := (h1 j oj hj).2 i oi hi
    unfold pairOk at this
    have hbq : i.beq j = false := by
      cases hq : i.beq j
      · rfl
      · exact absurd (Nat.eq_of_beq_eq_true hq) hne
    simp only [Bool.and_eq_true, hbq, Bool.false_or] at this
    have h3 := this.2.2
    simpa [isAct, ha, hb] using h3
end Go.Ev
/- A region that draws its order: in whatever order, it comes to what it comes to in the text's own. -/
namespace Go.Ev
open Go
set_option linter.unusedVariables false
set_option linter.unusedSimpArgs false
def cut (m : Map) (k : Nat) : Map := fun b => if b < k then m b else none
theorem cut_some {m : Map} {k b : Nat} {L : Loc} (h : cut m k b = some L) : b < k ∧ m b = some L := by
  unfold cut at h
  split at h
  · exact ⟨‹_›, h⟩
  · cases h
theorem cut_mk {m : Map} {k b : Nat} {L : Loc} (hb : b < k) (h : m b = some L) : cut m k b = some L := by
  unfold cut; rw [if_pos hb]; exact h
theorem cut_le (m : Map) (k : Nat) : (cut m k).le m := fun b L h => (cut_some h).2
theorem cut_mono {m m' : Map} {k k' : Nat} (hm : m.le m') (hk : k ≤ k') : (cut m k).le (cut m' k') := fun b L h => by
  obtain ⟨h1, h2⟩ := cut_some h
  exact cut_mk (by omega) (hm _ _ h2)
theorem first_of (p : Nat → Prop) : ∀ (y x : Nat), x ≤ y → (∀ k, x ≤ k → k < y → ¬ p k) ∨ ∃ q, x ≤ q ∧ q < y ∧ p q ∧ ∀ k, x ≤ k → k < q → ¬ p k := by
  intro y
  induction y with
  | zero => intro x h; exact .inl fun k _ hk => by omega
  | succ y ih =>
    intro x h
    by_cases hxy : x ≤ y
    · rcases ih x hxy with h1 | ⟨q, h1, h2, h3⟩
      · by_cases hp : p y
        · exact .inr ⟨y, hxy, by omega, hp, h1⟩
        · refine .inl fun k hk1 hk2 => ?_
          by_cases e : k = y
          · subst e; exact hp
          · exact h1 k hk1 (by omega)
      · exact .inr ⟨q, h1, by omega, h3⟩
    · exact .inl fun k _ hk => by omega
theorem last_of (p : Nat → Prop) : ∀ (y x : Nat), x ≤ y → (∀ k, x ≤ k → k < y → ¬ p k) ∨ ∃ q, x ≤ q ∧ q < y ∧ p q ∧ ∀ k, q < k → k < y → ¬ p k := by
  intro y
  induction y with
  | zero => intro x h; exact .inl fun k _ hk => by omega
  | succ y ih =>
    intro x h
    by_cases hxy : x ≤ y
    · by_cases hp : p y
      · exact .inr ⟨y, hxy, by omega, hp, fun k h1 h2 => by omega⟩
      · rcases ih x hxy with h1 | ⟨q, h1, h2, h3, h4⟩
        · refine .inl fun k hk1 hk2 => ?_
          by_cases e : k = y
          · subst e; exact hp
          · exact h1 k hk1 (by omega)
        · refine .inr ⟨q, h1, by omega, h3, fun k hk1 hk2 => ?_⟩
          by_cases e : k = y
          · subst e; exact hp
          · exact h4 k hk1 (by omega)
    · exact .inl fun k _ hk => by omega
section
variable (P : Program) (T : Tab) (callf : FuncId → Array Value → Heap → Option (Value × Heap)) (n : Nat) (ops : Array Oper)
def ActAt (k : Nat) : Prop := ∃ o, ops[k]? = some o ∧ cls T o.op = .act
structure Canon (S : Nat → St) (V : Nat → Value) : Prop where
  out : ∀ k o, ops[k]? = some o → Outc P T callf ops o (S k) (V k) (S (k + 1)).H
  tm : ∀ k o, ops[k]? = some o → dput n (S k).tm o.dst (V k) = some (S (k + 1)).tm
  mono : ∀ k, k < ops.size → (S k).H.n ≤ (S (k + 1)).H.n
  still : ∀ k, k < ops.size → ¬ ActAt T ops k → ∀ b, b < (S k).H.n → (S (k + 1)).H.get b = (S k).H.get b
  gn : ∀ k, k ≤ ops.size → HWf (S k).H
  steady : ∀ p ∈ loose T ops, ∃ s o, S p.1 = s ∧ ops[p.1]? = some o ∧ (awanted ops s.tm o = true → ∀ x u v, lookArg o.op = some x → aeval s.tm x = some u → alook T o.op u s.H = some v →
    alook T o.op u (S p.2).H = some v ∧ alook T o.op u (S (p.2 + 1)).H = some v)
variable {P T callf n ops} {S : Nat → St} {V : Nat → Value}
theorem Canon.monoLe (h : Canon P T callf n ops S V) : ∀ (j i : Nat), i ≤ j → j ≤ ops.size → (S i).H.n ≤ (S j).H.n := by
  intro j
  induction j with
  | zero => intro i hi _; rw [show i = 0 by omega]; exact Nat.le_refl _
  | succ j ih =>
    intro i hi hj
    by_cases e : i = j + 1
    · rw [e]; exact Nat.le_refl _
    · exact Nat.le_trans (ih i (by omega) (by omega)) (h.mono j (by omega))
theorem Canon.stills (h : Canon P T callf n ops S V) : ∀ (j i : Nat), i ≤ j → j ≤ ops.size → (∀ k, i ≤ k → k < j → ¬ ActAt T ops k) → ∀ b, b < (S i).H.n → (S j).H.get b = (S i).H.get b := by
  intro j
  induction j with
  | zero => intro i hi _ _ b _; rw [show i = 0 by omega]
  | succ j ih =>
    intro i hi hj hk b hb
    by_cases e : i = j + 1
    · rw [e]
    · rw [h.still j (by omega) (hk j (by omega) (by omega)) b (Nat.lt_of_lt_of_le hb (h.monoLe j i (by omega) (by omega)))]
      exact ih i (by omega) (by omega) (fun k h1 h2 => hk k h1 (by omega)) b hb
theorem Canon.tms (h : Canon P T callf n ops S V) (hD : DrawOk T ops) (t : Tmp) : ∀ (j : Nat), j ≤ ops.size →
    (∀ i oi, i < j → ops[i]? = some oi → oi.dst = some t → (S j).tm.get t = some (V i)) ∧ ((∀ i oi, i < j → ops[i]? = some oi → oi.dst ≠ some t) → (S j).tm.get t = (S 0).tm.get t) := by
  intro j
  induction j with
  | zero => exact fun _ => ⟨fun i _ hi => by omega, fun _ => rfl⟩
  | succ j ih =>
    intro hj
    obtain ⟨h1, h2⟩ := ih (by omega)
    obtain ⟨o, ho⟩ : ∃ o, ops[j]? = some o := ⟨ops[j], Array.getElem?_eq_getElem (by omega)⟩
    have ht := h.tm j o ho
    have hget : ∀ x, o.dst ≠ some x → (S (j + 1)).tm.get x = (S j).tm.get x := by
      intro x hx
      unfold dput at ht
      cases hd : o.dst with
      | none => rw [hd] at ht; injection ht with ht; rw [← ht]
      | some d =>
        rw [hd] at ht hx
        simp only at ht
        cases hb : d.blt n <;> rw [hb] at ht <;> simp only [cond_false, cond_true] at ht
        · cases ht
        · injection ht with ht
          rw [← ht, Tr.get_put, if_neg (fun e => hx (by rw [e]))]
    have hget2 : ∀ x, o.dst = some x → (S (j + 1)).tm.get x = some (V j) := by
      intro x hx
      unfold dput at ht
      rw [hx] at ht
      simp only at ht
      cases hb : x.blt n <;> rw [hb] at ht <;> simp only [cond_false, cond_true] at ht
      · cases ht
      · injection ht with ht
        rw [← ht, Tr.get_put, if_pos rfl]
    refine ⟨fun i oi hi hoi hd => ?_, fun hno => ?_⟩
    · by_cases e : i = j
      · subst e
        rw [ho] at hoi
        cases hoi
        exact hget2 t hd
      · rw [hget t (hD.dst i j oi o t e hoi ho hd)]
        exact h1 i oi (by omega) hoi hd
    · rw [hget t (hno j o (by omega) ho)]
      exact h2 fun i oi hi hoi => hno i oi (by omega) hoi
theorem actAt_dec (k : Nat) (o : Oper) (ho : ops[k]? = some o) : ActAt T ops k ↔ cls T o.op = .act := by
  constructor
  · rintro ⟨o', h1, h2⟩; rw [ho] at h1; cases h1; exact h2
  · exact fun h => ⟨o, ho, h⟩
/-- All acts ahead of a place are listed, none from it on. -/
def Front (T : Tab) (ops : Array Oper) (L : Array Bool) (τ : Nat) : Prop :=
  τ ≤ ops.size ∧ (∀ q, q < τ → ActAt T ops q → L.getD q false = true) ∧ (∀ q, τ ≤ q → ActAt T ops q → L.getD q false = false)
def bd (S : Nat → St) (τ i : Nat) : Nat := max (S (i + 1)).H.n (S τ).H.n
/-- What a block holds now. -/
def Cur (S : Nat → St) (N τ b : Nat) (ob : Ob) : Prop :=
  (b < (S τ).H.n ∧ (S τ).H.get b = some ob) ∨ ((S τ).H.n ≤ b ∧ ∃ i, τ ≤ i ∧ i < N ∧ (S i).H.n ≤ b ∧ b < (S (i + 1)).H.n ∧ (S (i + 1)).H.get b = some ob)
structure Inv (P : Program) (T : Tab) (n : Nat) (ops : Array Oper) (S : Nat → St) (V : Nat → Value) (m0 : Map) (a0 : Act) (w0 : World) (L : Array Bool) (τ : Nat) (m : Map) (a : Act) (w : World) : Prop where
  closed : Closed ops L
  sizeL : L.size = ops.size
  front : Front T ops L τ
  le : m0.le m
  dom : ∀ b K, m b = some K → m0 b = some K ∨ ∃ i, i < ops.size ∧ L.getD i false = true ∧ (S i).H.n ≤ b ∧ b < (S (i + 1)).H.n
  size : a.tmps.size = n
  defers : a.defers = a0.defers
  tmv : ∀ i oi d, ops[i]? = some oi → L.getD i false = true → oi.dst = some d → VR (cut m (bd S τ i)) (V i) (a.tmps.getD d undef)
  tm0 : ∀ t, (∀ i oi, ops[i]? = some oi → L.getD i false = true → oi.dst ≠ some t) → VR m0 (((S 0).tm.get t).getD undef) (a.tmps.getD t undef)
  blk : ∀ b K ob, m b = some K → b < (S τ).H.n → (S τ).H.get b = some ob → BlkOk P (cut m (S τ).H.n) ob K w
  blk2 : ∀ i b K ob, τ ≤ i → i < ops.size → L.getD i false = true → m b = some K → (S i).H.n ≤ b → b < (S (i + 1)).H.n → (S (i + 1)).H.get b = some ob → BlkOk P (cut m (S (i + 1)).H.n) ob K w
  late : ∀ i, i < τ → L.getD i false = false → ∀ b, (S i).H.n ≤ b → b < (S (i + 1)).H.n → (S τ).H.get b = (S (i + 1)).H.get b
  inj : ∀ b1 b2 K1 K2 o1 o2, m b1 = some K1 → m b2 = some K2 → b1 ≠ b2 → Cur S ops.size τ b1 o1 → o1.ro = false → Cur S ops.size τ b2 o2 → K1.c ≠ K2.c
  wr0 : ∀ b, b < (S 0).H.n → (S τ).H.wr b → (S 0).H.wr b
  lv0 : ∀ b, b < (S 0).H.n → ((S τ).H.get b).isSome → ((S 0).H.get b).isSome
  os : w.os = w0.os
  tape : w.tape = w0.tape
  output : w.output = w0.output
  wsize : w0.heap.size ≤ w.heap.size
  keep : ∀ c, c < w0.heap.size → ¬ owned m0 (S 0).H c → w.heap[c]? = w0.heap[c]?
  live : ∀ b K ob, m b = some K → Cur S ops.size τ b ob → (m0 b = some K ∧ ((S 0).H.get b).isSome) ∨ ((S 0).H.n ≤ b ∧ (owned m0 (S 0).H K.c ∨ w0.heap.size ≤ K.c))
  akeep : ∀ b, b < (S 0).H.n → m0 b = none → (S τ).H.get b = (S 0).H.get b
variable {m0 : Map} {a0 : Act} {w0 : World} {L : Array Bool} {τ : Nat} {m : Map} {a : Act} {w : World}
theorem Inv.onb [Bs] (hb0 : Bas m0 (S 0).H w0) (h : Inv P T n ops S V m0 a0 w0 L τ m a w) : OnBs w where
  ksz := Nat.le_trans hb0.ksz h.wsize
  low := fun c hc => (h.keep c (Nat.lt_of_lt_of_le hc hb0.ksz) (by
    rintro ⟨b, K, h1, h2, rfl⟩
    have := hb0.own b K h1 h2
    omega)).trans (hb0.low c hc)
theorem Inv.own' [Bs] (hb0 : Bas m0 (S 0).H w0) (hd0 : ∀ b K, m0 b = some K → b < (S 0).H.n) (h : Inv P T n ops S V m0 a0 w0 L τ m a w) {b : Nat} {K : Loc} {ob : Ob} (hb : m b = some K) (hlt : b < (S τ).H.n) (hget : (S τ).H.get b = some ob) (hro : ob.ro = false) : Bs.K ≤ K.c := by
  rcases h.live b K ob hb (.inl ⟨hlt, hget⟩) with ⟨h1, _⟩ | ⟨_, h2 | h2⟩
  · exact hb0.own b K h1 (h.wr0 b (hd0 b K h1) ⟨ob, hget, hro⟩)
  · obtain ⟨b', L', h3, h4, h5⟩ := h2
    have := hb0.own b' L' h3 h4
    omega
  · exact Nat.le_trans hb0.ksz h2
/-- Who made a block. -/
theorem maker_eq (hC : Canon P T callf n ops S V) {i j b : Nat} (hi : i < ops.size) (hj : j < ops.size) (h1 : (S i).H.n ≤ b) (h2 : b < (S (i + 1)).H.n) (h3 : (S j).H.n ≤ b) (h4 : b < (S (j + 1)).H.n) : i = j := by
  rcases Nat.lt_trichotomy i j with h | h | h
  · have := hC.monoLe j (i + 1) (by omega) (by omega); omega
  · exact h
  · have := hC.monoLe i (j + 1) (by omega) (by omega); omega
theorem Inv.dom' (hC : Canon P T callf n ops S V) (hd0 : ∀ b K, m0 b = some K → b < (S 0).H.n) (h : Inv P T n ops S V m0 a0 w0 L τ m a w) {b : Nat} {K : Loc} (hb : m b = some K) (hτ : (S τ).H.n ≤ b) :
    ∃ i, τ ≤ i ∧ i < ops.size ∧ L.getD i false = true ∧ (S i).H.n ≤ b ∧ b < (S (i + 1)).H.n := by
  rcases h.dom b K hb with h1 | ⟨i, h1, h2, h3, h4⟩
  · have := hd0 b K h1
    have := hC.monoLe τ 0 (by omega) h.front.1
    omega
  · refine ⟨i, ?_, h1, h2, h3, h4⟩
    rcases Nat.lt_or_ge i τ with h5 | h5
    · have := hC.monoLe τ (i + 1) (by omega) h.front.1; omega
    · exact h5
/-- The place goes on over what is no act. -/
theorem Inv.shift (hC : Canon P T callf n ops S V) (hd0 : ∀ b K, m0 b = some K → b < (S 0).H.n) (h : Inv P T n ops S V m0 a0 w0 L τ m a w) {τ' : Nat} (hle : τ ≤ τ') (hf : Front T ops L τ') : Inv P T n ops S V m0 a0 w0 L τ' m a w := by
  have hno : ∀ k, τ ≤ k → k < τ' → ¬ ActAt T ops k := fun k h1 h2 ha => by
    have h3 := h.front.2.2 k h1 ha
    have h4 := hf.2.1 k h2 ha
    rw [h3] at h4; cases h4
  have hn : (S τ).H.n ≤ (S τ').H.n := hC.monoLe τ' τ hle hf.1
  have hs : ∀ b, b < (S τ).H.n → (S τ').H.get b = (S τ).H.get b := hC.stills τ' τ hle hf.1 hno
  have hs2 : ∀ i, τ ≤ i → i < τ' → ∀ b, b < (S (i + 1)).H.n → (S τ').H.get b = (S (i + 1)).H.get b := fun i h1 h2 => hC.stills τ' (i + 1) (by omega) hf.1 fun k h3 h4 => hno k (by omega) h4
  have h0 : (S 0).H.n ≤ (S τ).H.n := hC.monoLe τ 0 (by omega) h.front.1
  have hcur : ∀ b K ob, m b = some K → Cur S ops.size τ' b ob → Cur S ops.size τ b ob := by
    intro b K ob hb hc
    rcases hc with ⟨h1, h2⟩ | ⟨h1, i, h2, h3⟩
    · by_cases hb2 : b < (S τ).H.n
      · exact .inl ⟨hb2, by rw [← hs b hb2]; exact h2⟩
      · obtain ⟨i, g1, g2, g3, g4, g5⟩ := h.dom' hC hd0 hb (by omega)
        have hi : i < τ' := by
          rcases Nat.lt_or_ge i τ' with h5 | h5
          · exact h5
          · have := hC.monoLe i τ' h5 (by omega); omega
        exact .inr ⟨by omega, i, g1, g2, g4, g5, by rw [← hs2 i g1 hi b g5]; exact h2⟩
    · exact .inr ⟨by omega, i, by omega, h3⟩
  exact {
    closed := h.closed, sizeL := h.sizeL, front := hf, le := h.le, dom := h.dom, size := h.size, defers := h.defers
    tmv := fun i oi d h1 h2 h3 => (h.tmv i oi d h1 h2 h3).mono (cut_mono (Map.le_refl m) (by unfold bd; omega))
    tm0 := h.tm0
    blk := fun b K ob hb hlt ho => by
      by_cases hb2 : b < (S τ).H.n
      · exact (h.blk b K ob hb hb2 (by rw [← hs b hb2]; exact ho)).mono (cut_mono (Map.le_refl m) hn) rfl
      · obtain ⟨i, g1, g2, g3, g4, g5⟩ := h.dom' hC hd0 hb (by omega)
        have hi : i < τ' := by
          rcases Nat.lt_or_ge i τ' with h5 | h5
          · exact h5
          · have := hC.monoLe i τ' h5 (by omega); omega
        exact (h.blk2 i b K ob g1 g2 g3 hb g4 g5 (by rw [← hs2 i g1 hi b g5]; exact ho)).mono (cut_mono (Map.le_refl m) (hC.monoLe τ' (i + 1) (by omega) hf.1)) rfl
    blk2 := fun i b K ob h1 h2 h3 h4 h5 h6 h7 => h.blk2 i b K ob (by omega) h2 h3 h4 h5 h6 h7
    late := fun i h1 h2 b h3 h4 => by
      rcases Nat.lt_or_ge i τ with h5 | h5
      · rw [hs b (Nat.lt_of_lt_of_le h4 (hC.monoLe τ (i + 1) (by omega) h.front.1))]
        exact h.late i h5 h2 b h3 h4
      · exact hs2 i h5 h1 b h4
    inj := fun b1 b2 K1 K2 o1 o2 h1 h2 h3 h4 h5 h6 => h.inj b1 b2 K1 K2 o1 o2 h1 h2 h3 (hcur _ _ _ h1 h4) h5 (hcur _ _ _ h2 h6)
    wr0 := fun b hb hw => h.wr0 b hb (by obtain ⟨q, h1, h2⟩ := hw; exact ⟨q, by rw [← hs b (by omega)]; exact h1, h2⟩)
    lv0 := fun b hb hw => h.lv0 b hb (by rw [← hs b (by omega)]; exact hw)
    os := h.os, tape := h.tape, output := h.output, wsize := h.wsize, keep := h.keep
    live := fun b K ob h1 h2 => h.live b K ob h1 (hcur _ _ _ h1 h2)
    akeep := fun b hb h1 => by rw [hs b (by omega)]; exact h.akeep b hb h1 }
/-- What an operation that is ready looks at goes together. -/
theorem Inv.looks (hC : Canon P T callf n ops S V) (hD : DrawOk T ops) (hd0 : ∀ b K, m0 b = some K → b < (S 0).H.n) (h : Inv P T n ops S V m0 a0 w0 L τ m a w) {j : Nat} {oj : Oper} (hj : ops[j]? = some oj) (hun : L.getD j false = false)
    (hready : ∀ e ∈ oj.after, binds e = true → L.getD e.on false = true) :
    ∀ t ∈ oj.looksAt ops, VR (cut m (bd S τ j)) (((S j).tm.get t).getD undef) (a.tmps.getD t undef) := by
  intro t ht
  have hjlt : j < ops.size := (Array.getElem?_eq_some_iff.1 hj).1
  have hlist : ∀ i oi, ops[i]? = some oi → oi.dst = some t → (i < j ↔ L.getD i false = true) := by
    intro i oi hi hd
    obtain ⟨hne, hord⟩ := hD.look i j oi oj t hi hj hd ht
    unfold ordered at hord
    cases hb : i.blt j
    · rw [hb] at hord
      simp only [cond_false] at hord
      have hnot : ¬ i < j := fun hl => by
        have : i.blt j = true := by simpa [Nat.blt_eq] using hl
        rw [this] at hb; cases hb
      refine ⟨fun hl => absurd hl hnot, fun hl => ?_⟩
      have := closed_before h.closed i j (fun o ho e he hbe => h.closed i o ho hl e he hbe) hord
      rw [hun] at this; cases this
    · rw [hb] at hord
      simp only [cond_true] at hord
      have hlt : i < j := by simpa [Nat.blt_eq] using hb
      refine ⟨fun _ => ?_, fun _ => hlt⟩
      exact closed_before h.closed j i (fun o ho e he hbe => by rw [hj] at ho; cases ho; exact hready e he hbe) hord
  obtain ⟨h1, h2⟩ := hC.tms hD t j (by omega)
  by_cases hex : ∃ i oi, ops[i]? = some oi ∧ oi.dst = some t ∧ L.getD i false = true
  · obtain ⟨i, oi, hi, hd, hl⟩ := hex
    have hij := (hlist i oi hi hd).2 hl
    rw [h1 i oi hij hi hd]
    refine (h.tmv i oi t hi hl hd).mono (cut_mono (Map.le_refl m) ?_)
    have := hC.monoLe (j + 1) (i + 1) (by omega) (by omega)
    unfold bd; omega
  · have hno : ∀ i oi, ops[i]? = some oi → L.getD i false = true → oi.dst ≠ some t := fun i oi hi hl hd => hex ⟨i, oi, hi, hd, hl⟩
    rw [h2 fun i oi hi hoi hd => hno i oi hoi ((hlist i oi hoi hd).1 hi) hd]
    refine (h.tm0 t hno).mono fun b K hb => cut_mk ?_ (h.le _ _ hb)
    have h3 := hd0 b K hb
    have := hC.monoLe (j + 1) 0 (by omega) (by omega)
    unfold bd; omega
end
end Go.Ev
/- A region that draws its order: one operation more of it. -/
namespace Go.Ev
open Go
set_option linter.unusedVariables false
set_option linter.unusedSimpArgs false
theorem set_getD (L : Array Bool) (j i : Nat) (d : Bool) : (L.setIfInBounds j true).getD i d = if i = j ∧ j < L.size then true else L.getD i d := by
  simp only [Array.getD_eq_getD_getElem?, Array.getElem?_setIfInBounds]
  by_cases e : j = i
  · subst e
    by_cases hj : j < L.size
    · simp [hj]
    · simp [hj]
  · rw [if_neg e, if_neg (fun h => e h.1.symm)]
theorem put_getD (a : Act) (dst : Option Tmp) (v : Value) (t : Tmp) (h : ∀ d, dst = some d → d < a.tmps.size) : (a.put dst v).tmps.getD t undef = if dst = some t then v else a.tmps.getD t undef := by
  cases dst with
  | none => simp [Act.put]
  | some d =>
    have hd := h d rfl
    simp only [Act.put, Array.getD_eq_getD_getElem?, Array.getElem?_setIfInBounds]
    by_cases e : d = t
    · subst e; simp [hd]
    · rw [if_neg e, if_neg (fun h => e (by cases h; rfl))]
theorem dput_lt {n : Nat} {tm tm' : Tr Value} {dst : Option Tmp} {v : Value} (h : dput n tm dst v = some tm') : ∀ d, dst = some d → d < n := by
  intro d hd
  subst hd
  unfold dput at h
  simp only at h
  cases hb : d.blt n
  · rw [hb] at h; cases h
  · simpa [Nat.blt_eq] using hb
section
variable {P : Program} {T : Tab} {callf : FuncId → Array Value → Heap → Option (Value × Heap)} {n : Nat} {ops : Array Oper} {S : Nat → St} {V : Nat → Value}
  {m0 : Map} {a0 : Act} {w0 : World} {L : Array Bool} {τ : Nat} {m : Map} {a : Act} {w : World}
theorem Inv.closed_set (h : Inv P T n ops S V m0 a0 w0 L τ m a w) {j : Nat} {oj : Oper} (hj : ops[j]? = some oj) (hready : ∀ e ∈ oj.after, binds e = true → L.getD e.on false = true) : Closed ops (L.setIfInBounds j true) := by
  intro i oi hi hl e he hb
  rw [set_getD] at hl ⊢
  split
  · rfl
  · split at hl
    · rename_i hij; obtain ⟨rfl, _⟩ := hij; rw [hj] at hi; cases hi; exact hready e he hb
    · exact h.closed i oi hi hl e he hb
theorem Inv.tm_step (hC : Canon P T callf n ops S V) (hD : DrawOk T ops) (h : Inv P T n ops S V m0 a0 w0 L τ m a w) {j : Nat} {oj : Oper} (hj : ops[j]? = some oj) (hun : L.getD j false = false) {m' : Map} {τ' : Nat} {v' : Value}
    (hcut : ∀ i, (cut m (bd S τ i)).le (cut m' (bd S τ' i))) (hv : VR (cut m' (bd S τ' j)) (V j) v') :
    (∀ i oi d, ops[i]? = some oi → (L.setIfInBounds j true).getD i false = true → oi.dst = some d → VR (cut m' (bd S τ' i)) (V i) ((a.put oj.dst v').tmps.getD d undef)) ∧
    (∀ t, (∀ i oi, ops[i]? = some oi → (L.setIfInBounds j true).getD i false = true → oi.dst ≠ some t) → VR m0 (((S 0).tm.get t).getD undef) ((a.put oj.dst v').tmps.getD t undef)) := by
  have hlt : ∀ d, oj.dst = some d → d < a.tmps.size := by rw [h.size]; exact dput_lt (hC.tm j oj hj)
  have hjl : j < L.size := by rw [h.sizeL]; exact (Array.getElem?_eq_some_iff.1 hj).1
  refine ⟨fun i oi d hi hl hd => ?_, fun t ht => ?_⟩
  · rw [put_getD _ _ _ _ hlt]
    rw [set_getD] at hl
    by_cases e : i = j
    · subst e
      rw [hj] at hi
      cases hi
      rw [if_pos hd]
      exact hv
    · rw [if_neg (fun h => e h.1)] at hl
      rw [if_neg (hD.dst i j oi oj d e hi hj hd)]
      exact (h.tmv i oi d hi hl hd).mono (hcut i)
  · have hne : oj.dst ≠ some t := ht j oj hj (by rw [set_getD, if_pos ⟨rfl, hjl⟩])
    rw [put_getD _ _ _ _ hlt, if_neg hne]
    exact h.tm0 t fun i oi hi hl => ht i oi hi (by rw [set_getD]; split; · rfl
                                                   · exact hl)
theorem Inv.front_set (h : Inv P T n ops S V m0 a0 w0 L τ m a w) {j : Nat} (hna : ¬ ActAt T ops j) : Front T ops (L.setIfInBounds j true) τ := by
  refine ⟨h.front.1, fun q hq ha => ?_, fun q hq ha => ?_⟩
  · rw [set_getD]
    split
    · rfl
    · exact h.front.2.1 q hq ha
  · rw [set_getD, if_neg (fun (e : q = j ∧ j < L.size) => hna (by rw [← e.1]; exact ha))]
    exact h.front.2.2 q hq ha
theorem set_true {L : Array Bool} {j i : Nat} (h : L.getD i false = true) : (L.setIfInBounds j true).getD i false = true := by
  rw [set_getD]; split
  · rfl
  · exact h
theorem set_false {L : Array Bool} {j i : Nat} (h : (L.setIfInBounds j true).getD i false = false) : L.getD i false = false := by
  rw [set_getD] at h; split at h
  · cases h
  · exact h
theorem set_or {L : Array Bool} {j i : Nat} (h : (L.setIfInBounds j true).getD i false = true) : i = j ∨ L.getD i false = true := by
  rw [set_getD] at h; split at h
  · rename_i e; exact .inl e.1
  · exact .inr h
/-- An operation that makes nothing. -/
theorem Inv.quiet_step (hC : Canon P T callf n ops S V) (hD : DrawOk T ops) (h : Inv P T n ops S V m0 a0 w0 L τ m a w) {j : Nat} {oj : Oper} (hj : ops[j]? = some oj) (hun : L.getD j false = false)
    (hready : ∀ e ∈ oj.after, binds e = true → L.getD e.on false = true) (hna : ¬ ActAt T ops j) (hH : (S (j + 1)).H.n = (S j).H.n) {v' : Value} (hv : VR (cut m (bd S τ j)) (V j) v') :
    Inv P T n ops S V m0 a0 w0 (L.setIfInBounds j true) τ m (a.put oj.dst v') w := by
  obtain ⟨t1, t2⟩ := h.tm_step hC hD hj hun (m' := m) (τ' := τ) (fun _ => Map.le_refl _) hv
  exact { h with
    closed := h.closed_set hj hready
    sizeL := by simp [h.sizeL]
    front := h.front_set hna
    dom := fun b K hb => by
      rcases h.dom b K hb with h1 | ⟨i, h1, h2, h3⟩
      · exact .inl h1
      · exact .inr ⟨i, h1, set_true h2, h3⟩
    size := by rw [← h.size]; cases oj.dst <;> simp [Act.put]
    defers := by rw [← h.defers]; cases oj.dst <;> rfl
    tmv := t1
    tm0 := t2
    blk2 := fun i b K ob h1 h2 h3 h4 h5 h6 h7 => by
      rcases set_or h3 with rfl | h3
      · omega
      · exact h.blk2 i b K ob h1 h2 h3 h4 h5 h6 h7
    late := fun i h1 h2 => h.late i h1 (set_false h2) }
/-- An operation that makes a block. -/
theorem Inv.make_step (hC : Canon P T callf n ops S V) (hD : DrawOk T ops) (hd0 : ∀ b K, m0 b = some K → b < (S 0).H.n) (h : Inv P T n ops S V m0 a0 w0 L τ m a w) {j : Nat} {oj : Oper} (hj : ops[j]? = some oj) (hun : L.getD j false = false)
    (hready : ∀ e ∈ oj.after, binds e = true → L.getD e.on false = true) (hna : ¬ ActAt T ops j) {ob : Ob} (hH : (S (j + 1)).H = (S j).H.push ob) {v' : Value} {cs : Array Value} {i0 : TypeInfo} (hi0 : P.info? ob.elem = some i0) (hro : ob.ro = false) (hlen : ob.cells.length ≤ cs.size)
    (hcs : ∀ (k : Nat) (x : Value), ob.cells[k]? = some x → ∃ y, cs[k]? = some y ∧ VR (cut m (bd S τ j)) x y) (hv : VR ((cut m (bd S τ j)).add (S j).H.n ⟨w.heap.size, 0, cs.size, i0.size, false⟩) (V j) v') :
    Inv P T n ops S V m0 a0 w0 (L.setIfInBounds j true) τ (m.add (S j).H.n ⟨w.heap.size, 0, cs.size, i0.size, false⟩) (a.put oj.dst v') (w.alloc (.cells cs ob.elem)) := by
  have hjlt : j < ops.size := (Array.getElem?_eq_some_iff.1 hj).1
  have hjl : j < L.size := by rw [h.sizeL]; exact hjlt
  have hn1 : (S (j + 1)).H.n = (S j).H.n + 1 := by rw [hH]; rfl
  have h0j : (S 0).H.n ≤ (S j).H.n := hC.monoLe j 0 (by omega) (by omega)
  have hnone : m (S j).H.n = none := by
    cases hm : m (S j).H.n with
    | none => rfl
    | some K =>
      rcases h.dom _ K hm with h1 | ⟨i, h1, h2, h3, h4⟩
      · have := hd0 _ _ h1; omega
      · have := maker_eq hC h1 hjlt h3 h4 (Nat.le_refl _) (by omega)
        subst this
        rw [hun] at h2; cases h2
  generalize hNL : (⟨w.heap.size, 0, cs.size, i0.size, false⟩ : Loc) = NL at hv ⊢
  have hle : m.le (m.add (S j).H.n NL) := Map.le_add hnone
  have hcase : ∀ b K, (m.add (S j).H.n NL) b = some K → (b = (S j).H.n ∧ K = NL) ∨ (b ≠ (S j).H.n ∧ m b = some K) := by
    intro b K hb
    unfold Map.add at hb
    split at hb
    · rename_i e; cases hb; exact .inl ⟨e, rfl⟩
    · rename_i e; exact .inr ⟨e, hb⟩
  have hold : ∀ c, c < w.heap.size → (w.alloc (.cells cs ob.elem)).heap[c]? = w.heap[c]? := fun c hc => Ev.alloc_old w _ c hc
  have hbd : (S j).H.n < bd S τ j := by unfold bd; omega
  have hvadd : ((cut m (bd S τ j)).add (S j).H.n NL).le (cut (m.add (S j).H.n NL) (bd S τ j)) := by
    intro b K hb
    unfold Map.add at hb
    split at hb
    · rename_i e; cases hb; subst e; exact cut_mk hbd (Map.add_self _ _ _)
    · obtain ⟨g1, g2⟩ := cut_some hb; exact cut_mk g1 (hle _ _ g2)
  obtain ⟨t1, t2⟩ := h.tm_step hC hD hj hun (m' := m.add (S j).H.n NL) (τ' := τ) (fun _ => cut_mono hle (Nat.le_refl _)) (hv.mono hvadd)
  have hob : (S (j + 1)).H.get (S j).H.n = some ob := by rw [hH, Heap.get_push, if_pos rfl]
  have hblkNew : ∀ k, bd S τ j ≤ k → BlkOk P (cut (m.add (S j).H.n NL) k) ob NL (w.alloc (.cells cs ob.elem)) := by
    intro k hk
    subst hNL
    refine .inl ⟨rfl, cs, ob.elem, (0, 0), Ev.alloc_new w _, by simpa using hlen, fun i x hx => ?_, fun _ => ⟨rfl, rfl, rfl⟩, i0, hi0, rfl⟩
    obtain ⟨y, hy, hvy⟩ := hcs i x hx
    exact ⟨y, by simpa using hy, hvy.mono (cut_mono hle hk)⟩
  have hlateJ : j < τ → (S τ).H.get (S j).H.n = some ob := fun hjt => by rw [h.late j hjt hun _ (Nat.le_refl _) (by omega)]; exact hob
  have hcurJ : ∀ o', Cur S ops.size τ (S j).H.n o' → o' = ob := by
    intro o' hc
    rcases Nat.lt_or_ge j τ with hjt | hjt
    · have hlt : (S j).H.n < (S τ).H.n := by have := hC.monoLe τ (j + 1) (by omega) h.front.1; omega
      rcases hc with ⟨_, h2⟩ | ⟨h1, _⟩
      · rw [hlateJ hjt] at h2; cases h2; rfl
      · omega
    · have hge := hC.monoLe j τ hjt (by omega)
      rcases hc with ⟨h1, _⟩ | ⟨_, i, g1, g2, g3, g4, g5⟩
      · omega
      · have := maker_eq hC g2 hjlt g3 g4 (Nat.le_refl _) (by omega)
        subst this
        rw [hob] at g5; cases g5; rfl
  have hltc : ∀ b K o', m b = some K → Cur S ops.size τ b o' → K.c < w.heap.size := by
    intro b K o' hb hc
    rcases hc with ⟨h1, h2⟩ | ⟨h1, i, g1, g2, g3, g4, g5⟩
    · exact (h.blk b K o' hb h1 h2).lt
    · obtain ⟨i', k1, k2, k3, k4, k5⟩ := h.dom' hC hd0 hb h1
      have := maker_eq hC g2 k2 g3 g4 k4 k5
      subst this
      exact (h.blk2 i b K o' g1 g2 k3 hb g3 g4 g5).lt
  have hcNL : NL.c = w.heap.size := by rw [← hNL]
  exact { h with
    closed := h.closed_set hj hready
    sizeL := by simp [h.sizeL]
    front := h.front_set hna
    le := Map.le_trans h.le hle
    dom := fun b K hb => by
      rcases hcase b K hb with ⟨rfl, rfl⟩ | ⟨_, hb⟩
      · exact .inr ⟨j, hjlt, by rw [set_getD, if_pos ⟨rfl, hjl⟩], Nat.le_refl _, by omega⟩
      · rcases h.dom b K hb with h1 | ⟨i, h1, h2, h3⟩
        · exact .inl h1
        · exact .inr ⟨i, h1, set_true h2, h3⟩
    size := by rw [← h.size]; cases oj.dst <;> simp [Act.put]
    defers := by rw [← h.defers]; cases oj.dst <;> rfl
    tmv := t1
    tm0 := t2
    blk := fun b K o' hb hlt ho => by
      rcases hcase b K hb with ⟨rfl, rfl⟩ | ⟨_, hb⟩
      · have := hcurJ o' (.inl ⟨hlt, ho⟩)
        subst this
        refine hblkNew _ ?_
        have hjt : j < τ := by
          rcases Nat.lt_or_ge j τ with h5 | h5
          · exact h5
          · have := hC.monoLe j τ h5 (by omega); omega
        have := hC.monoLe τ (j + 1) (by omega) h.front.1
        unfold bd; omega
      · have := h.blk b K o' hb hlt ho
        exact this.mono (cut_mono hle (Nat.le_refl _)) (hold _ this.lt)
    blk2 := fun i b K o' h1 h2 h3 h4 h5 h6 h7 => by
      rcases hcase b K h4 with ⟨rfl, rfl⟩ | ⟨hbn, hb⟩
      · have hij := maker_eq hC h2 hjlt h5 h6 (Nat.le_refl _) (by omega)
        subst hij
        rw [hob] at h7
        cases h7
        refine hblkNew _ ?_
        have := hC.monoLe (i + 1) τ (by omega) (by omega)
        unfold bd; omega
      · rcases set_or h3 with rfl | h3
        · exact absurd (by omega : b = (S i).H.n) hbn
        · have := h.blk2 i b K o' h1 h2 h3 hb h5 h6 h7
          exact this.mono (cut_mono hle (Nat.le_refl _)) (hold _ this.lt)
    late := fun i h1 h2 => h.late i h1 (set_false h2)
    inj := fun b1 b2 K1 K2 o1 o2 h1 h2 h3 h4 h5 h6 => by
      rcases hcase b1 K1 h1 with ⟨e1, e1'⟩ | ⟨hn1', g1⟩
      · rcases hcase b2 K2 h2 with ⟨e2, e2'⟩ | ⟨hn2', g2⟩
        · exact absurd (e1.trans e2.symm) h3
        · have := hltc _ _ _ g2 h6; rw [e1']; omega
      · rcases hcase b2 K2 h2 with ⟨e2, e2'⟩ | ⟨hn2', g2⟩
        · have := hltc _ _ _ g1 h4; rw [e2']; omega
        · exact h.inj b1 b2 K1 K2 o1 o2 g1 g2 h3 h4 h5 h6
    os := h.os, tape := h.tape, output := h.output
    wsize := Nat.le_trans h.wsize (by simp)
    keep := fun c hc ho => by rw [hold c (Nat.lt_of_lt_of_le hc h.wsize)]; exact h.keep c hc ho
    live := fun b K o' h1 h2 => by
      rcases hcase b K h1 with ⟨rfl, rfl⟩ | ⟨hbn, hb⟩
      · exact .inr ⟨h0j, .inr (by rw [hcNL]; exact h.wsize)⟩
      · exact h.live b K o' hb h2 }
end
end Go.Ev
/- A region that draws its order: the operations that may write, the loads, and all of it. -/
namespace Go.Ev
open Go
set_option linter.unusedVariables false
set_option linter.unusedSimpArgs false
section
variable {P : Program} {T : Tab} {callf : FuncId → Array Value → Heap → Option (Value × Heap)} {n : Nat} {ops : Array Oper} {S : Nat → St} {V : Nat → Value}
  {m0 : Map} {a0 : Act} {w0 : World} {L : Array Bool} {τ : Nat} {m : Map} {a : Act} {w : World}
/-- An operation that may write. -/
theorem Inv.act_step [Bs] (hC : Canon P T callf n ops S V) (hD : DrawOk T ops) (hd0 : ∀ b K, m0 b = some K → b < (S 0).H.n) {j : Nat} (h : Inv P T n ops S V m0 a0 w0 L j m a w) {oj : Oper} (hj : ops[j]? = some oj) (hun : L.getD j false = false)
    (hready : ∀ e ∈ oj.after, binds e = true → L.getD e.on false = true) (ha : ActAt T ops j) {v' : Value} {w' : World} {m' : Map}
    (hv : VR m' (V j) v') (hr : Rep P m' (S (j + 1)).H w') (hf : Fr (cut m (S j).H.n) (S j).H w m' (S (j + 1)).H w') :
    Inv P T n ops S V m0 a0 w0 (L.setIfInBounds j true) (j + 1) (fun b => if b < (S (j + 1)).H.n then m' b else m b) (a.put oj.dst v') w' := by
  have hjlt : j < ops.size := (Array.getElem?_eq_some_iff.1 hj).1
  have hjl : j < L.size := by rw [h.sizeL]; exact hjlt
  have h0j : (S 0).H.n ≤ (S j).H.n := hC.monoLe j 0 (by omega) (by omega)
  have hjj : (S j).H.n ≤ (S (j + 1)).H.n := hC.monoLe (j + 1) j (by omega) (by omega)
  generalize hmm : (fun b => if b < (S (j + 1)).H.n then m' b else m b : Map) = mm
  have mlt : ∀ b, b < (S (j + 1)).H.n → mm b = m' b := fun b hb => by rw [← hmm]; simp only [if_pos hb]
  have mge : ∀ b, (S (j + 1)).H.n ≤ b → mm b = m b := fun b hb => by rw [← hmm]; simp only [if_neg (Nat.not_lt.2 hb)]
  -- blocks of a listed operation are not j's
  have hnoj : ∀ b K, m b = some K → (S j).H.n ≤ b → (S (j + 1)).H.n ≤ b := by
    intro b K hb hge
    obtain ⟨i, h1, h2, h3, h4, h5⟩ := h.dom' hC hd0 hb hge
    have hne : i ≠ j := fun e => by subst e; rw [hun] at h3; cases h3
    have := hC.monoLe i (j + 1) (by omega) (by omega)
    omega
  have hmle : m.le mm := by
    intro b K hb
    rcases Nat.lt_or_ge b (S j).H.n with h1 | h1
    · rw [mlt b (by omega)]; exact hf.le _ _ (cut_mk h1 hb)
    · rw [mge b (hnoj b K hb h1)]; exact hb
  have hm'cut : m'.le (cut mm (S (j + 1)).H.n) := fun b K hb => by
    have h1 := hr.dom b K hb
    exact cut_mk h1 (by rw [mlt b h1]; exact hb)
  have hcutb : ∀ i, (cut m (bd S j i)).le (cut mm (bd S (j + 1) i)) := fun i => cut_mono hmle (by unfold bd; omega)
  obtain ⟨t1, t2⟩ := h.tm_step hC hD hj hun (m' := mm) (τ' := j + 1) hcutb (hv.mono (Map.le_trans hm'cut (cut_mono (Map.le_refl _) (by unfold bd; omega))))
  have hcurj : ∀ b ob, b < (S j).H.n → (S j).H.get b = some ob → Cur S ops.size j b ob := fun b ob h1 h2 => .inl ⟨h1, h2⟩
  -- what j's run owns
  have hown : ∀ c, owned (cut m (S j).H.n) (S j).H c → owned m0 (S 0).H c ∨ w0.heap.size ≤ c := by
    rintro c ⟨b0, K0, g1, ⟨ob, g2, g3⟩, rfl⟩
    obtain ⟨g4, g5⟩ := cut_some g1
    rcases h.live b0 K0 ob g5 (hcurj b0 ob g4 g2) with ⟨k1, k2⟩ | ⟨k1, k2⟩
    · have h0 := hd0 _ _ k1
      exact .inl ⟨b0, K0, k1, h.wr0 b0 h0 ⟨ob, g2, g3⟩, rfl⟩
    · exact k2
  -- blocks beyond j's are left alone
  have hbeyond : ∀ b K ob, m b = some K → (S (j + 1)).H.n ≤ b → Cur S ops.size j b ob → K.c < w.heap.size → w'.heap[K.c]? = w.heap[K.c]? := by
    intro b K ob hb hge hcur hlt
    refine hf.keep K.c hlt ?_
    rintro ⟨b0, K0, g1, ⟨o0, g2, g3⟩, g4⟩
    obtain ⟨g5, g6⟩ := cut_some g1
    exact h.inj b0 b K0 K o0 ob g6 hb (by omega) (hcurj _ _ g5 g2) g3 hcur g4
  have hCurUp : ∀ b ob, (S (j + 1)).H.n ≤ b → Cur S ops.size (j + 1) b ob → Cur S ops.size j b ob := by
    intro b ob hb hc
    rcases hc with ⟨h1, _⟩ | ⟨h1, i, h2, h3⟩
    · omega
    · exact .inr ⟨by omega, i, by omega, h3⟩
  have hltc : ∀ b K ob, m b = some K → (S (j + 1)).H.n ≤ b → Cur S ops.size j b ob → K.c < w.heap.size := by
    intro b K ob hb hge hc
    rcases hc with ⟨h1, _⟩ | ⟨h1, i, g1, g2, g3, g4, g5⟩
    · omega
    · obtain ⟨i', k1, k2, k3, k4, k5⟩ := h.dom' hC hd0 hb h1
      have := maker_eq hC g2 k2 g3 g4 k4 k5
      subst this
      exact (h.blk2 i b K ob g1 g2 k3 hb g3 g4 g5).lt
  have hCurLow : ∀ b ob, b < (S (j + 1)).H.n → Cur S ops.size (j + 1) b ob → (S (j + 1)).H.get b = some ob := by
    intro b ob hb hc
    rcases hc with ⟨_, h2⟩ | ⟨h1, _⟩
    · exact h2
    · omega
  exact {
    closed := h.closed_set hj hready
    sizeL := by simp [h.sizeL]
    front := by
      refine ⟨by omega, fun q hq hqa => ?_, fun q hq hqa => ?_⟩
      · rw [set_getD]
        split
        · rfl
        · rename_i hne
          exact h.front.2.1 q (by
            rcases Nat.lt_or_ge q j with h5 | h5
            · exact h5
            · exact absurd ⟨by omega, hjl⟩ hne) hqa
      · rw [set_getD, if_neg (fun (e : q = j ∧ j < L.size) => by omega)]
        exact h.front.2.2 q (by omega) hqa
    le := Map.le_trans h.le hmle
    dom := fun b K hb => by
      rcases Nat.lt_or_ge b (S (j + 1)).H.n with h1 | h1
      · rw [mlt b h1] at hb
        rcases hf.dom b K hb with h2 | h2
        · obtain ⟨h3, h4⟩ := cut_some h2
          rcases h.dom b K h4 with h5 | ⟨i, h5, h6, h7⟩
          · exact .inl h5
          · exact .inr ⟨i, h5, set_true h6, h7⟩
        · exact .inr ⟨j, hjlt, by rw [set_getD, if_pos ⟨rfl, hjl⟩], h2, h1⟩
      · rw [mge b h1] at hb
        rcases h.dom b K hb with h5 | ⟨i, h5, h6, h7⟩
        · exact .inl h5
        · exact .inr ⟨i, h5, set_true h6, h7⟩
    size := by rw [← h.size]; cases oj.dst <;> simp [Act.put]
    defers := by rw [← h.defers]; cases oj.dst <;> rfl
    tmv := t1
    tm0 := t2
    blk := fun b K ob hb hlt ho => by
      rw [mlt b hlt] at hb
      exact (hr.blk b K ob hb ho).mono hm'cut rfl
    blk2 := fun i b K ob h1 h2 h3 h4 h5 h6 h7 => by
      have hge : (S (j + 1)).H.n ≤ b := Nat.le_trans (hC.monoLe i (j + 1) h1 (by omega)) h5
      rw [mge b hge] at h4
      rcases set_or h3 with rfl | h3
      · omega
      · have hb2 := h.blk2 i b K ob (by omega) h2 h3 h4 h5 h6 h7
        exact hb2.mono (cut_mono hmle (Nat.le_refl _)) (hbeyond b K ob h4 hge (.inr ⟨by omega, i, by omega, h2, h5, h6, h7⟩) hb2.lt)
    late := fun i h1 h2 b h3 h4 => by
      have hne : i ≠ j := fun e => by subst e; rw [set_getD, if_pos ⟨rfl, hjl⟩] at h2; cases h2
      have hlt : i < j := by omega
      have hub : b < (S j).H.n := Nat.lt_of_lt_of_le h4 (hC.monoLe j (i + 1) (by omega) (by omega))
      rw [← h.late i hlt (set_false h2) b h3 h4]
      refine hf.akeep b hub ?_
      cases hm : cut m (S j).H.n b with
      | none => rfl
      | some K =>
        obtain ⟨_, g2⟩ := cut_some hm
        rcases h.dom b K g2 with g3 | ⟨i', g3, g4, g5, g6⟩
        · have := hd0 _ _ g3
          have := hC.monoLe i 0 (by omega) (by omega)
          omega
        · have := maker_eq hC g3 (by omega) g5 g6 h3 h4
          subst this
          rw [set_false h2] at g4; cases g4
    inj := fun b1 b2 K1 K2 o1 o2 h1 h2 h3 h4 h5 h6 => by
      rcases Nat.lt_or_ge b1 (S (j + 1)).H.n with q1 | q1
      · rw [mlt b1 q1] at h1
        have g1 := hCurLow b1 o1 q1 h4
        rcases Nat.lt_or_ge b2 (S (j + 1)).H.n with q2 | q2
        · rw [mlt b2 q2] at h2
          have g2 := hCurLow b2 o2 q2 h6
          exact hr.inj b1 b2 K1 K2 h1 h2 ⟨o1, g1, h5⟩ (by rw [g2]; rfl) h3
        · rw [mge b2 q2] at h2
          have hc2 := hCurUp b2 o2 q2 h6
          have hl2 := hltc b2 K2 o2 h2 q2 hc2
          rcases hf.live b1 K1 h1 (by rw [g1]; rfl) with ⟨k1, k2⟩ | ⟨k1, k2 | k2⟩
          · obtain ⟨k3, k4⟩ := cut_some k1
            obtain ⟨q, k5, k6⟩ := hf.wrb b1 k3 ⟨o1, g1, h5⟩
            exact h.inj b1 b2 K1 K2 q o2 k4 h2 h3 (hcurj _ _ k3 k5) k6 hc2
          · obtain ⟨b0, K0, k3, ⟨o0, k4, k5⟩, k6⟩ := k2
            obtain ⟨k7, k8⟩ := cut_some k3
            rw [← k6]
            exact h.inj b0 b2 K0 K2 o0 o2 k8 h2 (by omega) (hcurj _ _ k7 k4) k5 hc2
          · omega
      · rw [mge b1 q1] at h1
        have hc1 := hCurUp b1 o1 q1 h4
        have hl1 := hltc b1 K1 o1 h1 q1 hc1
        rcases Nat.lt_or_ge b2 (S (j + 1)).H.n with q2 | q2
        · rw [mlt b2 q2] at h2
          have g2 := hCurLow b2 o2 q2 h6
          rcases hf.live b2 K2 h2 (by rw [g2]; rfl) with ⟨k1, k2⟩ | ⟨k1, k2 | k2⟩
          · obtain ⟨k3, k4⟩ := cut_some k1
            obtain ⟨q, k5⟩ := Option.isSome_iff_exists.1 k2
            exact h.inj b1 b2 K1 K2 o1 q h1 k4 h3 hc1 h5 (hcurj _ _ k3 k5)
          · obtain ⟨b0, K0, k3, ⟨o0, k4, k5⟩, k6⟩ := k2
            obtain ⟨k7, k8⟩ := cut_some k3
            rw [← k6]
            exact h.inj b1 b0 K1 K0 o1 o0 h1 k8 (by omega) hc1 h5 (hcurj _ _ k7 k4)
          · omega
        · rw [mge b2 q2] at h2
          exact h.inj b1 b2 K1 K2 o1 o2 h1 h2 h3 hc1 h5 (hCurUp b2 o2 q2 h6)
    wr0 := fun b hb hw => h.wr0 b hb (hf.wrb b (by omega) hw)
    lv0 := fun b hb hw => h.lv0 b hb (hf.lv b (by omega) hw)
    os := hf.os.trans h.os, tape := hf.tape.trans h.tape, output := hf.output.trans h.output
    wsize := Nat.le_trans h.wsize hf.size
    keep := fun c hc ho => by
      rw [hf.keep c (Nat.lt_of_lt_of_le hc h.wsize) (fun hown' => by
        rcases hown c hown' with h1 | h1
        · exact ho h1
        · omega)]
      exact h.keep c hc ho
    live := fun b K ob hb hc => by
      rcases Nat.lt_or_ge b (S (j + 1)).H.n with q | q
      · rw [mlt b q] at hb
        have g := hCurLow b ob q hc
        rcases hf.live b K hb (by rw [g]; rfl) with ⟨k1, k2⟩ | ⟨k1, k2 | k2⟩
        · obtain ⟨k3, k4⟩ := cut_some k1
          obtain ⟨q', k5⟩ := Option.isSome_iff_exists.1 k2
          exact h.live b K q' k4 (hcurj _ _ k3 k5)
        · exact .inr ⟨by omega, hown _ k2⟩
        · exact .inr ⟨by omega, .inr (Nat.le_trans h.wsize k2)⟩
      · rw [mge b q] at hb
        exact h.live b K ob hb (hCurUp b ob q hc)
    akeep := fun b hb h1 => by
      rw [hf.akeep b (by omega) ?_]
      · exact h.akeep b hb h1
      · cases hm : cut m (S j).H.n b with
        | none => rfl
        | some K =>
          obtain ⟨_, g2⟩ := cut_some hm
          rcases h.dom b K g2 with g3 | ⟨i', g3, g4, g5, g6⟩
          · rw [h1] at g3; cases g3
          · have := hC.monoLe i' 0 (by omega) (by omega); omega }
end
end Go.Ev
/- A region that draws its order: the loads, and the whole. -/
namespace Go.Ev
open Go
set_option linter.unusedVariables false
set_option linter.unusedSimpArgs false
theorem aload_congr {T : Tab} {t : TypeId} {b off : Nat} {H H' : Heap} (h : H.get b = H'.get b) : aload T t (.pointer (some ⟨b, off, none⟩)) H = aload T t (.pointer (some ⟨b, off, none⟩)) H' := by
  unfold aload; simp only [h]
theorem loose_mem {T : Tab} {ops : Array Oper} {j q : Nat} {oj oq : Oper} (hj : ops[j]? = some oj) (hq : ops[q]? = some oq) (hcj : cls T oj.op = .look) (hcq : cls T oq.op = .act)
    (h1 : j < q → ((Region.before ops).getD q 0).testBit j = false) (h2 : ¬ j < q → ((Region.before ops).getD j 0).testBit q = false) : (j, q) ∈ loose T ops := by
  have hjl := (Array.getElem?_eq_some_iff.1 hj).1
  have hql := (Array.getElem?_eq_some_iff.1 hq).1
  unfold loose
  rw [List.mem_flatMap]
  refine ⟨j, by simpa using hjl, List.mem_filterMap.2 ⟨q, by simpa using hql, ?_⟩⟩
  simp only [hj, hq, Option.map_some, hcj, hcq]
  cases hb : j.blt q
  · have hn : ¬ j < q := fun e => by
      have : j.blt q = true := by simpa [Nat.blt_eq] using e
      rw [this] at hb; cases hb
    simp only [cond_false, h2 hn]
  · have hn : j < q := by simpa [Nat.blt_eq] using hb
    simp only [cond_true, h1 hn, cond_false]
theorem look_op {T : Tab} {op : Op} (h : cls T op = .look) : (∃ t x, op = .load t x) ∨ ∃ s d x, op = .convert s d x := by
  cases op <;> simp only [cls] at h <;> first
    | exact .inl ⟨_, _, rfl⟩
    | exact .inr ⟨_, _, _, rfl⟩
    | (cases h; done)
    | (split at h <;> first | (cases h; done) | (split at h <;> first | (cases h; done) | (split at h <;> cases h)))
/-- Which block a value lets one read. -/
def readsB (u : Value) (b : Nat) : Prop := (∃ off, u = .pointer (some ⟨b, off, none⟩)) ∨ ∃ off n c, u = .slice (some ⟨b, off, none⟩) n c
theorem alook_dep {T : Tab} {op : Op} {u v : Value} {H : Heap} (h : alook T op u H = some v) : (∀ H', alook T op u H' = some v) ∨ ∃ b, readsB u b ∧ (∀ H', alook T op u H' = some v → (H'.get b).isSome) ∧ ∀ H' H'', H'.get b = H''.get b → alook T op u H' = alook T op u H'' := by
  cases op <;> simp only [alook] at h ⊢ <;> first
    | (cases h; done)
    | skip
  case load t x =>
    refine .inr ?_
    have key : ∃ b off, u = .pointer (some ⟨b, off, none⟩) := by
      unfold aload at h
      split at h
      · exact ⟨_, _, rfl⟩
      · cases h
    obtain ⟨b, off, rfl⟩ := key
    refine ⟨b, .inl ⟨off, rfl⟩, fun H' h' => ?_, fun H' H'' he => aload_congr he⟩
    unfold aload at h'
    simp only at h'
    split at h'
    · rename_i o _ _ ho _ _; rw [ho]; rfl
    · cases h'
  case convert s d x =>
    have h0 := h
    unfold aconvert at h
    split at h
    · rename_i sd k k' n hs hd
      refine .inl fun H' => ?_
      unfold aconvert
      simp only [hs, hd]
      exact h
    · rename_i e l c hs hd
      refine .inl fun H' => ?_
      unfold aconvert
      simp only [hs, hd]
      exact h
    · rename_i e b off n c hs hd
      refine .inr ⟨b, .inr ⟨off, n, c, rfl⟩, fun H' h' => ?_, fun H' H'' he => ?_⟩
      · unfold aconvert at h'
        simp only [hs, hd] at h'
        cases hu : isU8 (T.under e)
        · rw [hu] at h'; cases h'
        · rw [hu] at h'
          simp only [cond_true] at h'
          split at h'
          · rename_i o ho; rw [ho]; rfl
          · cases h'
      · unfold aconvert
        simp only [hs, hd, he]
    · cases h
theorem oprel_of {m : Map} {tm : Tr Value} {a : Act} {ops : Array Oper} {o : Oper} (h : ∀ t ∈ o.looksAt ops, VR m ((tm.get t).getD undef) (a.tmps.getD t undef)) : OpRel m tm a o.op.operands.toList := by
  intro x hx v hv
  cases x with
  | tmp t =>
    simp only [aeval] at hv
    cases hv
    exact h t (List.mem_append_left _ (List.mem_filterMap.2 ⟨.tmp t, hx, rfl⟩))
  | const c =>
    simp only [aeval] at hv
    cases hc : closed c
    · rw [hc] at hv; cases hv
    · rw [hc] at hv; cases hv; exact VR.of_closed hc
  | func f => simp only [aeval] at hv; cases hv; exact VR.of_closed rfl
  | global g => simp [aeval] at hv
section
variable {P : Program} {T : Tab} (hT : TabOk P T) {callf : FuncId → Array Value → Heap → Option (Value × Heap)} {n : Nat} {ops : Array Oper} {S : Nat → St} {V : Nat → Value}
  {m0 : Map} {a0 : Act} {w0 : World} {L : Array Bool} {τ : Nat} {m : Map} {a : Act} {w : World}
include hT in
theorem alook_sound0 {op : Op} {u u' v : Value} {H : Heap} {m : Map} {w : World} {x : Operand} (hx : lookArg op = some x) (h : alook T op u H = some v) (hr : Rep0 P m H w) (hu : VR m u u') {ρ : Operand → Value} (hρ : ρ x = u') {o : Oper} (ho : o.op = op) :
    ∃ v', (execOp ρ o).run P w = .ok (.value v') w ∧ VR m v v' := by
  cases op <;> simp only [lookArg] at hx <;> first
    | (cases hx; done)
    | skip
  case load t y =>
    cases hx
    obtain ⟨v', k1, k2⟩ := aload_sound0 hT h hr hu
    exact ⟨v', by simp [execOp, ho, hρ, k1], k2⟩
  case convert s d y =>
    cases hx
    obtain ⟨k1, k2⟩ := aconvert_sound0 hT h hr hu
    exact ⟨v, by simp [execOp, ho, hρ, k1], .same k2⟩
include hT in
theorem Inv.look (hC : Canon P T callf n ops S V) (hD : DrawOk T ops) (hd0 : ∀ b K, m0 b = some K → b < (S 0).H.n) (h : Inv P T n ops S V m0 a0 w0 L τ m a w) {j : Nat} {oj : Oper} (hj : ops[j]? = some oj) (hun : L.getD j false = false)
    (hready : ∀ e ∈ oj.after, binds e = true → L.getD e.on false = true) (hcj : cls T oj.op = .look) {x : Operand} {u : Value} (hop : lookArg oj.op = some x) (hu : aeval (S j).tm x = some u) (hl : alook T oj.op u (S j).H = some (V j)) (hw : awanted ops (S j).tm oj = true) :
    ∃ v', (execOp a.eval oj).run P w = .ok (.value v') w ∧ VR (cut m (bd S τ j)) (V j) v' := by
  have hjlt : j < ops.size := (Array.getElem?_eq_some_iff.1 hj).1
  have hxm : x ∈ oj.op.operands.toList := by
    rcases look_op hcj with ⟨t, y, e⟩ | ⟨s, d, y, e⟩
    · rw [e] at hop ⊢; cases hop; simp [Op.operands]
    · rw [e] at hop ⊢; cases hop; simp [Op.operands]
  have hvr := oprel_of (h.looks hC hD hd0 hj hun hready) x hxm u hu
  rcases alook_dep hl with hind | ⟨b, hrb, hlive0, hcong⟩
  · let Hf : Heap := { t := .lf, n := bd S τ j }
    have hget : ∀ y, Hf.get y = none := fun y => by cases y <;> rfl
    have hrep : Rep0 P (cut m (bd S τ j)) Hf w := ⟨fun y K' hy => (cut_some hy).1, fun y K' o hy ho => (by rw [hget] at ho; cases ho), fun b1 b2 K1 K2 h1 h2 h3 h4 hne => (by rw [hget] at h4; cases h4)⟩
    exact alook_sound0 hT hop (hind Hf) hrep hvr rfl rfl
  have hlive := hlive0 _ hl
  have hbj : b < (S j).H.n := hC.gn j (by omega) b hlive
  have hbase : ∃ K, cut m (bd S τ j) b = some K := by
    generalize a.eval x = ax at hvr
    rcases hrb with ⟨off, rfl⟩ | ⟨off, n', c', rfl⟩
    · cases hvr with
      | same hp => simp [plain] at hp
      | ptr hb => exact ⟨_, hb⟩
    · cases hvr with
      | same hp => simp [plain] at hp
      | slice hb _ => exact ⟨_, hb⟩
  obtain ⟨K, hK⟩ := hbase
  obtain ⟨hKb, hKm⟩ := cut_some hK
  -- acts that stand beside this look read the same
  have hact : ∀ q, q < ops.size → ActAt T ops q → ((q < j ∧ L.getD q false = false) ∨ (j < q ∧ L.getD q false = true)) →
      alook T oj.op u (S q).H = some (V j) ∧ alook T oj.op u (S (q + 1)).H = some (V j) := by
    intro q hq ⟨oq, hoq, hcq⟩ hside
    have hmem : (j, q) ∈ loose T ops := by
      refine loose_mem hj hoq hcj hcq (fun hlt => ?_) (fun hnlt => ?_)
      · rcases hside with ⟨h1, _⟩ | ⟨_, h2⟩
        · omega
        · cases hb : ((Region.before ops).getD q 0).testBit j with
          | false => rfl
          | true =>
            have := closed_before h.closed q j (fun o ho e he hbe => h.closed q o ho h2 e he hbe) hb
            rw [hun] at this; cases this
      · rcases hside with ⟨h1, h2⟩ | ⟨h1, _⟩
        · cases hb : ((Region.before ops).getD j 0).testBit q with
          | false => rfl
          | true =>
            have := closed_before h.closed j q (fun o ho e he hbe => by rw [hj] at ho; cases ho; exact hready e he hbe) hb
            rw [h2] at this; cases this
        · omega
    obtain ⟨s, o, hs, ho, hst⟩ := hC.steady (j, q) hmem
    simp only at hs ho hst
    rw [hj] at ho; cases ho; subst hs
    exact hst hw x _ _ hop hu hl
  have key : ∃ ob, BlkOk P (cut m (bd S τ j)) ob K w ∧ ∃ k, alook T oj.op u (S k).H = some (V j) ∧ (S k).H.get b = some ob := by
    have hsome : ∀ k, alook T oj.op u (S k).H = some (V j) → ∃ ob, (S k).H.get b = some ob := fun k hk => Option.isSome_iff_exists.1 (hlive0 _ hk)
    by_cases hbτ : b < (S τ).H.n
    · -- it lies as the acts so far have left it
      have hk : ∃ k, alook T oj.op u (S k).H = some (V j) ∧ (S τ).H.get b = (S k).H.get b := by
        rcases Nat.le_total τ j with hle | hle
        · rcases first_of (ActAt T ops) j τ hle with hno | ⟨q, q1, q2, q3, q4⟩
          · exact ⟨j, hl, (hC.stills j τ hle (by omega) hno b hbτ).symm⟩
          · exact ⟨q, (hact q (by omega) q3 (.inl ⟨q2, h.front.2.2 q q1 q3⟩)).1, (hC.stills q τ q1 (by omega) q4 b hbτ).symm⟩
        · rcases last_of (ActAt T ops) τ j hle with hno | ⟨q, q1, q2, q3, q4⟩
          · exact ⟨j, hl, hC.stills τ j hle h.front.1 hno b hbj⟩
          · have hqj : q ≠ j := fun e => by
              subst e
              have := (actAt_dec q oj hj).1 q3
              rw [hcj] at this; cases this
            have hlt : b < (S (q + 1)).H.n := Nat.lt_of_lt_of_le hbj (hC.monoLe (q + 1) j (by omega) (by have := h.front.1; omega))
            exact ⟨q + 1, (hact q (by have := h.front.1; omega) q3 (.inr ⟨by omega, h.front.2.1 q q2 q3⟩)).2, hC.stills τ (q + 1) (by omega) h.front.1 (fun k k1 k2 => q4 k (by omega) k2) b hlt⟩
      obtain ⟨k, hk1, hk2⟩ := hk
      obtain ⟨ob, hob⟩ := hsome k hk1
      exact ⟨ob, (h.blk b K ob hKm hbτ (by rw [hk2]; exact hob)).mono (cut_mono (Map.le_refl m) (by unfold bd; omega)) rfl, k, hk1, hob⟩
    · obtain ⟨i, g1, g2, g3, g4, g5⟩ := h.dom' hC hd0 hKm (by omega)
      have hij : i < j := by
        rcases Nat.lt_or_ge i j with h5 | h5
        · exact h5
        · have := hC.monoLe i j h5 (by omega); omega
      have hk : ∃ k, alook T oj.op u (S k).H = some (V j) ∧ (S (i + 1)).H.get b = (S k).H.get b := by
        rcases first_of (ActAt T ops) j (i + 1) hij with hno | ⟨q, q1, q2, q3, q4⟩
        · exact ⟨j, hl, (hC.stills j (i + 1) hij (by omega) hno b g5).symm⟩
        · exact ⟨q, (hact q (by omega) q3 (.inl ⟨q2, h.front.2.2 q (by omega) q3⟩)).1, (hC.stills q (i + 1) q1 (by omega) q4 b g5).symm⟩
      obtain ⟨k, hk1, hk2⟩ := hk
      obtain ⟨ob, hob⟩ := hsome k hk1
      refine ⟨ob, (h.blk2 i b K ob g1 g2 g3 hKm g4 g5 (by rw [hk2]; exact hob)).mono (cut_mono (Map.le_refl m) ?_) rfl, k, hk1, hob⟩
      have := hC.monoLe (j + 1) (i + 1) (by omega) (by omega)
      unfold bd; omega
  obtain ⟨ob, hblk, k, hk1, hk2⟩ := key
  let Hf : Heap := { t := Tr.lf.put b (some ob), n := bd S τ j }
  have hget : ∀ y, Hf.get y = if y = b then some ob else none := fun y => by
    show (Tr.lf.put b (some ob)).get y = _
    rw [Tr.get_put]
    rfl
  have hrep : Rep0 P (cut m (bd S τ j)) Hf w := by
    refine ⟨fun y K' hy => (cut_some hy).1, fun y K' o hy ho => ?_, fun b1 b2 K1 K2 h1 h2 h3 h4 hne => ?_⟩
    · rw [hget] at ho
      split at ho
      · rename_i e; subst e; cases ho
        rw [hK] at hy; cases hy; exact hblk
      · cases ho
    · obtain ⟨o, ho, _⟩ := h3
      rw [hget] at ho h4
      split at ho
      · rename_i e1
        split at h4
        · rename_i e2; exact absurd (e1.trans e2.symm) hne
        · simp at h4
      · cases ho
  have hl2 : alook T oj.op u Hf = some (V j) := by
    rw [hcong Hf (S k).H (by rw [hget, if_pos rfl, hk2])]
    exact hk1
  exact alook_sound0 hT hop hl2 hrep hvr rfl rfl
include hT in
/-- In whatever order. -/
theorem draw_sound [Bs] (hF : FnsOk P T) (hCall : CallOk P callf) (hC : Canon P T callf n ops S V) (hD : DrawOk T ops) (hd0 : ∀ b K, m0 b = some K → b < (S 0).H.n) (hb0 : Bas m0 (S 0).H w0) (hbox : ∀ o ∈ ops, boxOk P o) {Q : Exit → Act → World → Prop}
    (hq : ∀ L m a w, Inv P T n ops S V m0 a0 w0 L ops.size m a w → (∀ i, i < ops.size → L.getD i false = true) → Q .normal a w) :
    ∀ (fuel : Nat) (L : Array Bool) (τ : Nat) (m : Map) (a : Act) (w : World), (List.range ops.size).countP (fun i => !L.getD i false) ≤ fuel → Inv P T n ops S V m0 a0 w0 L τ m a w → wpAny P .any ops Q fuel L a w := by
  have hall : ∀ (L : Array Bool) τ m a w, Inv P T n ops S V m0 a0 w0 L τ m a w → (∀ i, i < ops.size → L.getD i false = true) → Q .normal a w := by
    intro L τ m a w h hl
    exact hq L m a w (h.shift hC hd0 h.front.1 ⟨Nat.le_refl _, fun q hq _ => hl q hq, fun q hq ⟨o, ho, _⟩ => by have := (Array.getElem?_eq_some_iff.1 ho).1; omega⟩) hl
  have hreadyNil : ∀ (L : Array Bool) τ m a w, Inv P T n ops S V m0 a0 w0 L τ m a w → Region.ready .any ops L = [] → ∀ i, i < ops.size → L.getD i false = true := by
    intro L τ m a w h hnil i
    induction i using Nat.strongRecOn with
    | _ i ih =>
      intro hi
      cases hL : L.getD i false with
      | true => rfl
      | false =>
        have hmem : i ∈ Region.ready .any ops L := by
          rw [mem_ready]
          have hiL : i < L.size := by rw [h.sizeL]; exact hi
          refine ⟨by simpa [Array.getD_eq_getD_getElem?, hiL] using hL, ops[i], Array.getElem?_eq_getElem hi, fun e he hb => ?_⟩
          have hlt := hD.edge i ops[i] (Array.getElem?_eq_getElem hi) e he hb
          exact ih e.on hlt (by omega)
        rw [hnil] at hmem; cases hmem
  intro fuel
  induction fuel with
  | zero =>
    intro L τ m a w hcnt h
    have hl : ∀ i, i < ops.size → L.getD i false = true := by
      intro i hi
      have := List.countP_eq_zero.1 (Nat.le_zero.1 hcnt) i (by simpa using hi)
      simpa using this
    refine ⟨?_, hall L τ m a w h hl⟩
    cases hr : Region.ready .any ops L with
    | nil => rfl
    | cons i r =>
      have hmem : i ∈ Region.ready .any ops L := by rw [hr]; simp
      obtain ⟨h1, o, ho, _⟩ := mem_ready.1 hmem
      have hi := (Array.getElem?_eq_some_iff.1 ho).1
      have h2 := hl i hi
      have hiL : i < L.size := by rw [h.sizeL]; exact hi
      simp [Array.getD_eq_getD_getElem?, hiL] at h1 h2
      rw [h1] at h2; cases h2
  | succ fuel ih =>
    intro L τ m a w hcnt h
    refine ⟨fun hnil => hall L τ m a w h (hreadyNil L τ m a w h hnil), fun j hj => ?_⟩
    obtain ⟨hun0, oj, hoj, hready0⟩ := mem_ready.1 hj
    have hjlt : j < ops.size := (Array.getElem?_eq_some_iff.1 hoj).1
    have hjL : j < L.size := by rw [h.sizeL]; exact hjlt
    have hun : L.getD j false = false := by simp [Array.getD_eq_getD_getElem?, hjL] at hun0 ⊢; exact hun0
    have hready : ∀ e ∈ oj.after, binds e = true → L.getD e.on false = true := hready0
    have hcnt' : (List.range ops.size).countP (fun i => !(L.setIfInBounds j true).getD i false) ≤ fuel := by
      have key : ∀ (l : List Nat), l.Nodup → j ∈ l → l.countP (fun i => !(L.setIfInBounds j true).getD i false) + 1 = l.countP (fun i => !L.getD i false) := by
        intro l
        induction l with
        | nil => intro _ h; cases h
        | cons y l ihl =>
          intro hnd hmem
          simp only [List.nodup_cons] at hnd
          simp only [List.countP_cons]
          by_cases e : y = j
          · subst e
            have hsame : l.countP (fun i => !(L.setIfInBounds y true).getD i false) = l.countP (fun i => !L.getD i false) := by
              apply List.countP_congr
              intro z hz
              have hne : z ≠ y := fun e => by subst e; exact hnd.1 hz
              rw [set_getD, if_neg (fun (e : z = y ∧ y < L.size) => hne e.1)]
            have e1 : (L.setIfInBounds y true).getD y false = true := by rw [set_getD, if_pos ⟨rfl, hjL⟩]
            rw [hsame, e1, hun]
            simp
          · have hm : j ∈ l := by
              rcases List.mem_cons.1 hmem with h | h
              · exact absurd h.symm e
              · exact h
            have := ihl hnd.2 hm
            rw [set_getD, if_neg (fun (h : y = j ∧ j < L.size) => e h.1)]
            omega
      have := key _ List.nodup_range (by simpa using hjlt)
      omega
    rw [wpOp_eq hoj]
    have hbj : boxOk P oj := hbox oj (Array.mem_of_getElem? hoj)
    have hlk := h.looks hC hD hd0 hoj hun hready
    have hwant : Region.wanted oj (yielded ops a.tmps) = awanted ops (S j).tm oj := awanted_eq (m := cut m (bd S τ j)) fun g want hg d hd => hlk d (by
      unfold Oper.looksAt
      rw [hg]
      simp [hd])
    have hout := hC.out j oj hoj
    by_cases hact : ActAt T ops j
    · -- it may write
      have hfr : Front T ops L j := by
        refine ⟨by omega, fun q hq hqa => ?_, fun q hq hqa => ?_⟩
        · obtain ⟨oq, hoq, hcq⟩ := hqa
          have hord := hD.act q j oq oj (by omega) hoq hoj hcq ((actAt_dec j oj hoj).1 hact)
          unfold ordered at hord
          have hb : q.blt j = true := by simpa [Nat.blt_eq] using hq
          rw [hb] at hord
          exact closed_before h.closed j q (fun o ho e he hbe => by rw [hoj] at ho; cases ho; exact hready e he hbe) hord
        · by_cases e : q = j
          · subst e; exact hun
          · cases hq' : L.getD q false with
            | false => rfl
            | true =>
              obtain ⟨oq, hoq, hcq⟩ := hqa
              have hord := hD.act j q oj oq (by omega) hoj hoq ((actAt_dec j oj hoj).1 hact) hcq
              unfold ordered at hord
              have hb : j.blt q = true := by simp [Nat.blt_eq]; omega
              rw [hb] at hord
              have := closed_before h.closed q j (fun o ho e he hbe => h.closed q o ho hq' e he hbe) hord
              rw [hun] at this; cases this
      have hτj : τ ≤ j := by
        rcases Nat.lt_or_ge j τ with h5 | h5
        · have := h.front.2.1 j h5 hact
          rw [hun] at this; cases this
        · exact h5
      have hs := h.shift hC hd0 hτj hfr
      have hrep : Rep P (cut m (S j).H.n) (S j).H w := by
        refine ⟨⟨fun b K hb => (cut_some hb).1, fun b K ob hb ho => ?_, fun b1 b2 K1 K2 h1 h2 h3 h4 hne => ?_⟩, ⟨hs.onb hb0, fun b K hb hw => ?_⟩⟩
        rotate_left 2
        · obtain ⟨g1, g2⟩ := cut_some hb
          obtain ⟨o1, k1, k2⟩ := hw
          exact hs.own' hb0 hd0 g2 g1 k1 k2
        · obtain ⟨g1, g2⟩ := cut_some hb
          exact hs.blk b K ob g2 g1 ho
        · obtain ⟨g1, g2⟩ := cut_some h1
          obtain ⟨g3, g4⟩ := cut_some h2
          obtain ⟨o1, k1, k2⟩ := h3
          obtain ⟨o2, k3⟩ := Option.isSome_iff_exists.1 h4
          exact hs.inj b1 b2 K1 K2 o1 o2 g2 g4 hne (.inl ⟨g1, k1⟩) k2 (.inl ⟨g3, k3⟩)
      have hop : OpRel (cut m (S j).H.n) (S j).tm a oj.op.operands.toList := by
        refine oprel_of (ops := ops) fun t ht => ?_
        obtain ⟨e1, e2⟩ := hC.tms hD t j (by omega)
        by_cases hex : ∃ i oi, ops[i]? = some oi ∧ oi.dst = some t ∧ L.getD i false = true
        · obtain ⟨i, oi, hi, hd, hl⟩ := hex
          have hilt : i < ops.size := (Array.getElem?_eq_some_iff.1 hi).1
          have hij : i < j := by
            obtain ⟨hne, hord⟩ := hD.look i j oi oj t hi hoj hd ht
            rcases Nat.lt_or_ge i j with h5 | h5
            · exact h5
            · unfold ordered at hord
              have hb : i.blt j = false := by
                cases hb : i.blt j
                · rfl
                · have : i < j := by simpa [Nat.blt_eq] using hb
                  omega
              rw [hb] at hord
              have := closed_before h.closed i j (fun o ho e he hbe => h.closed i o ho hl e he hbe) hord
              rw [hun] at this; cases this
          rw [e1 i oi hij hi hd]
          refine (hs.tmv i oi t hi hl hd).mono (cut_mono (Map.le_refl m) ?_)
          have := hC.monoLe j (i + 1) (by omega) (by omega)
          unfold bd; omega
        · have hno : ∀ i oi, ops[i]? = some oi → L.getD i false = true → oi.dst ≠ some t := fun i oi hi hl hd => hex ⟨i, oi, hi, hd, hl⟩
          rw [e2 fun i oi hi hoi hd => by
            obtain ⟨hne, hord⟩ := hD.look i j oi oj t hoi hoj hd ht
            unfold ordered at hord
            have hb : i.blt j = true := by simpa [Nat.blt_eq] using hi
            rw [hb] at hord
            exact hno i oi hoi (closed_before h.closed j i (fun o ho e he hbe => by rw [hoj] at ho; cases ho; exact hready e he hbe) hord) hd]
          refine (hs.tm0 t hno).mono fun b K hb => cut_mk ?_ (hs.le _ _ hb)
          have h3 := hd0 b K hb
          have := hC.monoLe j 0 (by omega) (by omega)
          omega
      refine out_sound (m := cut m (S j).H.n) hT hF hCall hbj hout hop hwant hrep (fun r H1 he => (aop_grows he).2 (hC.gn j (by omega))) fun v' w' m' hv hr hf => ?_
      exact ih _ (j + 1) _ _ _ hcnt' (hs.act_step hC hD hd0 hoj hun hready hact hv hr hf)
    · -- it only reads or makes
      have hnc : cls T oj.op ≠ .act := fun e => hact ⟨oj, hoj, e⟩
      unfold wpO
      rw [hwant]
      rcases hout with ⟨h1, h2, h3⟩ | ⟨h1, r, H1, h2, h3⟩
      · rw [h1, if_neg (by simp)]
        refine ih _ τ m _ _ hcnt' ?_
        exact h.quiet_step hC hD hoj hun hready hact (by rw [h3]) (by rw [h2]; exact VR.of_closed rfl)
      · rw [h1, if_pos rfl]
        refine .inl ?_
        have hval : ∃ v, r = .val v ∧ V j = v ∧ (S (j + 1)).H = H1 := by
          rcases h3 with ⟨e1, e2⟩ | ⟨e1, e2, e3⟩ | ⟨f, args, e1, _⟩
          · exact ⟨_, e1, rfl, e2⟩
          · exfalso
            subst e1
            rcases hcl : cls T oj.op with _ | _ | _
            · rcases free_sound (P := P) (m := cut m (bd S τ j)) (a := a) hT hcl hbj h2 (oprel_of hlk) with ⟨_, v, hv, _⟩ | ⟨_, v, _, hv, _⟩ <;> cases hv
            · rcases look_op hcl with ⟨t, x, hop⟩ | ⟨sd, dd, x, hop⟩ <;>
                · unfold aop at h2
                  simp only [hop] at h2
                  split at h2
                  · unfold val at h2; split at h2 <;> cases h2
                  · cases h2
            · exact hnc hcl
          · exact absurd (by rw [e1] at h2; exact enter_act h2) hnc
        obtain ⟨v, rfl, hVj, hH⟩ := hval
        rcases hcl : cls T oj.op with _ | _ | _
        · rcases free_sound (P := P) (m := cut m (bd S τ j)) (a := a) hT hcl hbj h2 (oprel_of hlk) with ⟨hH1, u, hu, hrun⟩ | ⟨ob, u, hH1, hu, hrun⟩
          · cases hu
            obtain ⟨v', k1, k2⟩ := hrun w
            unfold Oper.wp
            rw [k1]
            exact ih _ τ m _ _ hcnt' (h.quiet_step hC hD hoj hun hready hact (by rw [hH, hH1]) (by rw [hVj]; exact k2))
          · cases hu
            obtain ⟨q, ⟨v', cs, i, k1, k2, k3, k4, k5, k6⟩, k7⟩ := hrun w
            unfold Oper.wp
            rw [k7, k1]
            exact ih _ τ _ _ _ hcnt' (h.make_step hC hD hd0 hoj hun hready hact (by rw [hH, hH1]) k2 k3 k4 k5 (by rw [hVj]; exact k6))
        · have key2 : (∃ x u, lookArg oj.op = some x ∧ aeval (S j).tm x = some u ∧ alook T oj.op u (S j).H = some (V j) ∧ H1 = (S j).H) ∨ (fallback P (S j).tm oj = some (V j) ∧ H1 = (S j).H ∧ ∀ cs b, oj.op ≠ .select cs b) := by
            rcases look_op hcl with ⟨t, x, hop⟩ | ⟨sd, dd, x, hop⟩
            · unfold aop at h2
              simp only [hop] at h2
              split at h2
              · rename_i u hu
                have hH1 := val_H h2
                refine .inl ⟨x, u, by rw [hop]; rfl, hu, ?_, hH1⟩
                rw [hop]
                unfold val at h2
                split at h2
                · rename_i v0 hv0; cases h2; rw [hVj]; exact hv0
                · cases h2
              · cases h2
            · unfold aop at h2
              simp only [hop] at h2
              split at h2
              · rename_i u hu
                have hH1 := val_H h2
                cases hcv : aconvert T sd dd u (S j).H with
                | some v0 =>
                  refine .inl ⟨x, u, by rw [hop]; rfl, hu, ?_, hH1⟩
                  rw [hop]
                  rw [hcv] at h2
                  simp only [orVal, val] at h2
                  cases h2
                  rw [hVj]; exact hcv
                | none =>
                  rw [hcv] at h2
                  simp only [orVal] at h2
                  refine .inr ⟨?_, hH1, by rw [hop]; simp⟩
                  unfold val at h2
                  split at h2
                  · rename_i v0 hv0; cases h2; rw [hVj]; exact hv0
                  · cases h2
              · cases h2
          rcases key2 with ⟨x, u, hop, hu, hl, hH1⟩ | ⟨hfb, hH1, hns⟩
          · obtain ⟨v', k1, k2⟩ := h.look hT hC hD hd0 hoj hun hready hcl hop hu hl h1
            unfold Oper.wp
            rw [k1]
            exact ih _ τ m _ _ hcnt' (h.quiet_step hC hD hoj hun hready hact (by rw [hH, hH1]) k2)
          · obtain ⟨k1, k2⟩ := fallback_sound (P := P) (m := cut m (bd S τ j)) (w := w) (oprel_of hlk) hns hfb
            unfold Oper.wp
            rw [k1]
            exact ih _ τ m _ _ hcnt' (h.quiet_step hC hD hoj hun hready hact (by rw [hH, hH1]) (VR.of_closed k2))
        · exact absurd hcl hnc
end
end Go.Ev
/- What the evaluator comes to, the model comes to: regions, code, calls. -/
namespace Go.Ev
open Go
set_option linter.unusedVariables false
set_option linter.unusedSimpArgs false
/-! The evaluator alone -/
section
variable {P : Program} {T : Tab} {callf : FuncId → Array Value → Heap → Option (Value × Heap)} {n : Nat} {ops : Array Oper}
def CallGrows (callf : FuncId → Array Value → Heap → Option (Value × Heap)) : Prop := ∀ f args H v H', callf f args H = some (v, H') → Grows H H'
theorem outc_grows (hg : CallGrows callf) {o : Oper} {s : St} {v : Value} {H' : Heap} (h : Outc P T callf ops o s v H') : Grows s.H H' := by
  rcases h with ⟨_, _, rfl⟩ | ⟨_, r, H1, h1, h2⟩
  · exact Grows.refl _
  · have := aop_grows h1
    rcases h2 with ⟨_, rfl⟩ | ⟨_, _, rfl⟩ | ⟨f, args, _, h3⟩
    · exact this
    · exact this
    · exact this.trans (hg _ _ _ _ _ h3)
theorem step1_grows (hg : CallGrows callf) {o : Oper} {s s' : St} (h : step1 P T n callf ops o s = some s') : Grows s.H s'.H := by
  obtain ⟨v, h1, _⟩ := step1_inv P T callf h
  exact outc_grows hg h1
/-- The operations in their order. -/
theorem evOps_sound [Bs] (hT : TabOk P T) (hF : FnsOk P T) (hC : CallOk P callf) {n : Nat} {ops : Array Oper} {Q : Exit → Act → World → Prop} (hg : CallGrows callf) :
    ∀ (l : List Oper) (s s' : St) (m : Map) (a : Act) (w : World), (∀ o ∈ l, boxOk P o) → evOps P T n callf ops l s = some s' → HWf s.H → TmRel m s.tm a.tmps → a.tmps.size = n → Rep P m s.H w →
      (∀ a' w' m', TmRel m' s'.tm a'.tmps → a'.tmps.size = n → a'.defers = a.defers → Rep P m' s'.H w' → Fr m s.H w m' s'.H w' → Q .normal a' w') → wpList P ops Q l a w := by
  intro l
  induction l with
  | nil =>
    intro s s' m a w _ h _ ht hn hr hq
    simp only [evOps] at h
    cases h
    exact hq a w m ht hn rfl hr (Fr.refl _ _ _)
  | cons o l ih =>
    intro s s' m a w hb h hwf ht hn hr hq
    simp only [evOps] at h
    split at h
    · rename_i s1 h1
      obtain ⟨v, ho, hd⟩ := step1_inv P T callf h1
      have := out_sound (K := wpList P ops Q l) (Q := Q) hT hF hC (hb o (by simp)) ho (ht.op _) ht.wanted hr (fun r H1 he => (aop_grows he).2 hwf) fun v' w' m' hv hr' hf => by
        obtain ⟨g1, g2, g3⟩ := dput_rel hd hn (ht.mono hf.le) hv
        exact ih s1 s' m' _ w' (fun o ho => hb o (by simp [ho])) h ((outc_grows hg ho).2 hwf) g1 g2 hr' fun a' w'' m'' k1 k2 k3 k4 k5 => hq a' w'' m'' k1 k2 (k3.trans g3) k4 (hf.trans hr k5)
      unfold wpO at this
      unfold wpList
      exact this
    · cases h
theorem evOps_grows (hg : CallGrows callf) : ∀ (l : List Oper) (s s' : St), evOps P T n callf ops l s = some s' → Grows s.H s'.H := by
  intro l
  induction l with
  | nil => intro s s' h; simp only [evOps] at h; cases h; exact Grows.refl _
  | cons o l ih =>
    intro s s' h
    simp only [evOps] at h
    split at h
    · rename_i s1 h1; exact (step1_grows hg h1).trans (ih _ _ h)
    · cases h
theorem evTrace_spec : ∀ (l : List Oper) (s : St) (r : List St), evTrace P T n callf ops l s = some r → r.length = l.length + 1 ∧ r[0]? = some s ∧ (∀ k o s1, l[k]? = some o → r[k]? = some s1 → ∃ s2, r[k + 1]? = some s2 ∧ step1 P T n callf ops o s1 = some s2) ∧ ∃ s', r.getLast? = some s' ∧ evOps P T n callf ops l s = some s' := by
  intro l
  induction l with
  | nil => intro s r h; simp only [evTrace] at h; cases h; exact ⟨rfl, rfl, fun k o s1 h => by simp at h, s, rfl, rfl⟩
  | cons o l ih =>
    intro s r h
    simp only [evTrace] at h
    split at h
    · rename_i s1 h1
      split at h
      · rename_i r' hr'
        cases h
        obtain ⟨g1, g2, g3, s', g4, g5⟩ := ih _ _ hr'
        refine ⟨by simp [g1], rfl, fun k o' s2 hk hs => ?_, s', ?_, by simp only [evOps, h1]; exact g5⟩
        · cases k with
          | zero =>
            simp at hk hs
            subst hk hs
            exact ⟨s1, by simpa using g2, h1⟩
          | succ k => simpa using g3 k o' s2 (by simpa using hk) (by simpa using hs)
        · rw [List.getLast?_cons, g4]; rfl
      · cases h
    · cases h
theorem evOps_trace : ∀ (l : List Oper) (s s' : St), evOps P T n callf ops l s = some s' → ∃ r, evTrace P T n callf ops l s = some r := by
  intro l
  induction l with
  | nil => intro s s' h; exact ⟨[s], rfl⟩
  | cons o l ih =>
    intro s s' h
    simp only [evOps] at h
    split at h
    · rename_i s1 h1
      obtain ⟨r, hr⟩ := ih _ _ h
      exact ⟨s :: r, by simp only [evTrace, h1, hr]⟩
    · cases h
theorem evRegion_grows (hg : CallGrows callf) {draw : Bool} {s s' : St} (h : evRegion P T n callf ops draw s = some s') : evOps P T n callf ops ops.toList s = some s' := by
  unfold evRegion at h
  cases draw
  · exact h
  · simp only [cond_true] at h
    split at h
    · exact h
    · split at h
      · rename_i l hl
        cases hb : (loose T ops).all (steady T ops l) <;> rw [hb] at h <;> simp only [cond_false, cond_true] at h
        · cases h
        · obtain ⟨_, _, _, s2, h1, h2⟩ := evTrace_spec _ _ _ hl
          rw [h] at h1; cases h1; exact h2
      · cases h
theorem veq0_eq {x y : Value} (h : veq0 x y = true) : x = y := by
  unfold veq0 at h
  split at h <;> simp_all
  · rename_i a b
    exact ByteArray.ext h
theorem veqs_eq : ∀ (a b : List Value), veqs a b = true → a = b := by
  intro a
  induction a with
  | nil => intro b h; cases b <;> simp [veqs] at h ⊢
  | cons x a ih =>
    intro b h
    cases b with
    | nil => simp [veqs] at h
    | cons y b =>
      simp only [veqs, Bool.and_eq_true] at h
      rw [veq0_eq h.1, ih b h.2]
theorem veq_eq {x y : Value} (h : veq x y = true) : x = y := by
  unfold veq at h
  split at h
  · rename_i a b
    have := veqs_eq _ _ h
    congr 1
    exact Array.ext' this
  · exact veq0_eq h
theorem steady_spec {l : List St} {p : Nat × Nat} {s s1 s2 : St} {o : Oper} (h : steady T ops l p = true) (hs : l[p.1]? = some s) (ho : ops[p.1]? = some o) (h1 : l[p.2]? = some s1) (h2 : l[p.2 + 1]? = some s2)
    (hw : awanted ops s.tm o = true) {x : Operand} {u v : Value} (hop : lookArg o.op = some x) (hu : aeval s.tm x = some u) (hl : alook T o.op u s.H = some v) : alook T o.op u s1.H = some v ∧ alook T o.op u s2.H = some v := by
  unfold steady at h
  simp only [hs, ho, hw, cond_true, hop, hu, hl, h1, h2] at h
  split at h
  · rename_i u1 u2 e1 e2
    simp only [Bool.and_eq_true] at h
    rw [veq_eq h.1] at e1
    rw [veq_eq h.2] at e2
    exact ⟨e1, e2⟩
  · cases h
/-- The states of a region, in the text's order. -/
theorem canon_of (hg : CallGrows callf) {s : St} {l : List St} (hwf : HWf s.H) (hl : evTrace P T n callf ops ops.toList s = some l) (hst : ∀ p ∈ loose T ops, steady T ops l p = true) :
    ∃ (S : Nat → St) (V : Nat → Value), Canon P T callf n ops S V ∧ S 0 = s ∧ ∃ s', l.getLast? = some s' ∧ S ops.size = s' := by
  obtain ⟨h1, h2, h3, s', h4, h5⟩ := evTrace_spec _ _ _ hl
  simp only [Array.length_toList] at h1
  have hin : ∀ k, k ≤ ops.size → ∃ x, l[k]? = some x := fun k hk => ⟨l[k]'(by omega), by simp⟩
  let S : Nat → St := fun k => (l[k]?).getD s
  have hS : ∀ k, k ≤ ops.size → l[k]? = some (S k) := fun k hk => by
    obtain ⟨x, hx⟩ := hin k hk
    show l[k]? = some ((l[k]?).getD s)
    rw [hx]; rfl
  have hstep : ∀ k o, ops[k]? = some o → step1 P T n callf ops o (S k) = some (S (k + 1)) := by
    intro k o ho
    have hk := (Array.getElem?_eq_some_iff.1 ho).1
    obtain ⟨s2, g1, g2⟩ := h3 k o (S k) (by simpa using ho) (hS k (by omega))
    rw [hS (k + 1) (by omega)] at g1
    cases g1
    exact g2
  have hV : ∀ k, ∃ v, ∀ o, ops[k]? = some o → Outc P T callf ops o (S k) v (S (k + 1)).H ∧ dput n (S k).tm o.dst v = some (S (k + 1)).tm := by
    intro k
    by_cases hk : k < ops.size
    · obtain ⟨v, g1, g2⟩ := step1_inv P T callf (hstep k ops[k] (Array.getElem?_eq_getElem hk))
      exact ⟨v, fun o ho => by rw [Array.getElem?_eq_getElem hk] at ho; cases ho; exact ⟨g1, g2⟩⟩
    · exact ⟨undef, fun o ho => absurd (Array.getElem?_eq_some_iff.1 ho).1 hk⟩
  have hgrow : ∀ k, k < ops.size → Grows (S k).H (S (k + 1)).H := fun k hk => step1_grows hg (hstep k ops[k] (Array.getElem?_eq_getElem hk))
  have h0 : S 0 = s := by show (l[0]?).getD s = s; rw [h2]; rfl
  have hgn : ∀ k, k ≤ ops.size → HWf (S k).H := by
    intro k
    induction k with
    | zero => intro _; rw [h0]; exact hwf
    | succ k ih => intro hk; exact (hgrow k (by omega)).2 (ih (by omega))
  refine ⟨S, fun k => Classical.choose (hV k), ⟨fun k o ho => (Classical.choose_spec (hV k) o ho).1, fun k o ho => (Classical.choose_spec (hV k) o ho).2, fun k hk => (hgrow k hk).1, fun k hk hna b hb => ?_, hgn, fun p hp => ?_⟩, h0, s', h4, ?_⟩
  · have ho : ops[k]? = some ops[k] := Array.getElem?_eq_getElem hk
    have hout := (Classical.choose_spec (hV k) ops[k] ho).1
    rcases hout with ⟨_, _, e⟩ | ⟨_, r, H1, e1, e2⟩
    · rw [e]
    · have hH : (S (k + 1)).H = H1 := by
        rcases e2 with ⟨_, e⟩ | ⟨_, _, e⟩ | ⟨f, args, e, _⟩
        · exact e
        · exact e
        · subst e; exact absurd ⟨_, ho, enter_act e1⟩ hna
      rw [hH]
      rcases aop_heap e1 with ⟨e, _⟩ | e | ⟨_, ob, e⟩
      · exact absurd ⟨_, ho, e⟩ hna
      · rw [e]
      · rw [e, Heap.get_push, if_neg (by omega)]
  · obtain ⟨i, j⟩ := p
    have hmem := hp
    unfold loose at hmem
    rw [List.mem_flatMap] at hmem
    obtain ⟨i', hi', hmem⟩ := hmem
    obtain ⟨j', hj', hmem⟩ := List.mem_filterMap.1 hmem
    have hij : i = i' ∧ j = j' := by
      split at hmem
      · revert hmem; generalize i'.blt j' = b1; intro hmem
        cases b1 <;> simp only [cond_false, cond_true] at hmem
        · revert hmem; generalize Nat.testBit _ _ = b2; intro hmem; cases b2 <;> simp only [cond_false, cond_true] at hmem <;> cases hmem; exact ⟨rfl, rfl⟩
        · revert hmem; generalize Nat.testBit _ _ = b2; intro hmem; cases b2 <;> simp only [cond_false, cond_true] at hmem <;> cases hmem; exact ⟨rfl, rfl⟩
      · cases hmem
    obtain ⟨rfl, rfl⟩ := hij
    have hi : i < ops.size := by simpa using hi'
    have hj : j < ops.size := by simpa using hj'
    exact ⟨S i, ops[i], rfl, Array.getElem?_eq_getElem hi, fun hw x u v hop hu hl' => steady_spec (hst _ hp) (hS i (by omega)) (Array.getElem?_eq_getElem hi) (hS j (by omega)) (hS (j + 1) (by omega)) hw hop hu hl'⟩
  · have : l.getLast? = l[ops.size]? := by rw [List.getLast?_eq_getElem?]; congr 1; omega
    rw [this, hS ops.size (Nat.le_refl _)] at h4
    cases h4; rfl
end
end Go.Ev
/- What the evaluator comes to, the model comes to: code and calls. -/
namespace Go.Ev
open Go
set_option linter.unusedVariables false
set_option linter.unusedSimpArgs false
def opOk (T : Tab) (o : Oper) : Bool := match o.op with | .box e _ => (T.size e).isSome | _ => true
def codeOk (T : Tab) : Code → Bool
  | .region _ ops draw => ops.toList.all (opOk T) && (!draw || drawOk T ops)
  | .seq a b => codeOk T a && codeOk T b
  | .cond _ a b => codeOk T a && codeOk T b
  | .block _ c => codeOk T c
  | .loop c => codeOk T c
  | .scope c => codeOk T c
  | _ => true
/-- Nothing that was there has turned. -/
structure Quiet (w w' : World) : Prop where
  os : w'.os = w.os
  tape : w'.tape = w.tape
  output : w'.output = w.output
  size : w.heap.size ≤ w'.heap.size
  block : ∀ k, k < w.heap.size → w'.heap[k]? = w.heap[k]?
structure ProgOk [Bs] (P : Program) (T : Tab) : Prop where
  tab : TabOk P T
  fns : FnsOk P T
  code : ∀ f fn c, T.fn f = some fn → fn.body = some c → codeOk T c = true
  mixed : P.follows .mixedOrders = true
  orc : ∀ f args v, T.orc f args = some v → closed v = true ∧ args.all closed = true ∧ ∀ w : World, OnBs w → Calls P f args.toArray w fun e w' => e = .returned v ∧ Quiet w w'
  mor : ∀ f (args : Array Value) H v H', T.mor f args.toList H = some (v, H') → Grows H H' ∧ ∀ (m : Map) (w : World) (args' : Array Value), HWf H → Rep P m H w → VRs m args.toList args'.toList → Calls P f args' w (CallPost P m H w v H')
def Xt.exit' : Xt → Exit
  | .normal => .normal
  | .ret => .ret
  | .exit i => .exit i
/-- Behind a piece of code. -/
def Post [Bs] (P : Program) (n : Nat) (m : Map) (H : Heap) (w : World) (a : Act) (x : Xt) (s' : St) (e : Exit) (a' : Act) (w' : World) : Prop :=
  e = x.exit' ∧ ∃ m', TmRel m' s'.tm a'.tmps ∧ a'.tmps.size = n ∧ a'.defers = a.defers ∧ Rep P m' s'.H w' ∧ Fr m H w m' s'.H w'
theorem Post.from [Bs] {P : Program} {n : Nat} {m m1 : Map} {H H1 : Heap} {w w1 : World} {a a1 : Act} {x : Xt} {s' : St} (hr : Rep P m H w) (hf : Fr m H w m1 H1 w1) (hd : a1.defers = a.defers) {e : Exit} {a' : Act} {w' : World}
    (h : Post P n m1 H1 w1 a1 x s' e a' w') : Post P n m H w a x s' e a' w' := by
  obtain ⟨h1, m', h2, h3, h4, h5, h6⟩ := h
  exact ⟨h1, m', h2, h3, h4.trans hd, h5, hf.trans hr h6⟩
theorem rounds_mono {P : Program} {c : Code} {Q Q' : Exit → Act → World → Prop} (hq : ∀ e a w, Q e a w → Q' e a w) : ∀ (k : Nat) (a : Act) (w : World), Code.rounds P c Q k a w → Code.rounds P c Q' k a w := by
  intro k
  induction k with
  | zero => intro a w h; exact h
  | succ k ih =>
    intro a w h
    rw [rounds_succ] at h ⊢
    refine wp_mono h fun e a' w' he => ?_
    cases e <;> first | exact ih _ _ he | exact hq _ _ _ he
section
variable {P : Program} {T : Tab} {callf : FuncId → Array Value → Heap → Option (Value × Heap)} {n : Nat} {ops : Array Oper}
theorem region_sound [Bs] (hP : ProgOk P T) (hC : CallOk P callf) (hg : CallGrows callf) {id : Nat} {draw : Bool} {s s' : St} (h : evRegion P T n callf ops draw s = some s') (hok : codeOk T (.region id ops draw) = true) (hwf : HWf s.H)
    {m : Map} {a : Act} {w : World} (ht : TmRel m s.tm a.tmps) (hn : a.tmps.size = n) (hr : Rep P m s.H w) : (Code.region id ops draw).wp P (Post P n m s.H w a .normal s') a w := by
  simp only [codeOk, Bool.and_eq_true, List.all_eq_true] at hok
  obtain ⟨hops, hdr⟩ := hok
  have hbox : ∀ o ∈ ops, boxOk P o := by
    intro o ho e x hop
    have := hops o (by simpa using ho)
    unfold opOk at this
    rw [hop] at this
    obtain ⟨k, hk⟩ := Option.isSome_iff_exists.1 this
    obtain ⟨i, hi, _⟩ := hP.tab.size e k hk
    exact ⟨i, hi⟩
  have hseq := evRegion_grows hg h
  cases draw
  · exact wp_region_list (evOps_sound hP.tab hP.fns hC hg ops.toList s s' m a w (fun o ho => hbox o (by simpa using ho)) hseq hwf ht hn hr
      (fun a' w' m' k1 k2 k3 k4 k5 => ⟨rfl, m', k1, k2, k3, k4, k5⟩))
  · have hD := drawOk_spec (by simpa using hdr)
    obtain ⟨l, hl⟩ := evOps_trace _ _ _ hseq
    have hst : ∀ p ∈ loose T ops, steady T ops l p = true := by
      unfold evRegion at h
      simp only [cond_true] at h
      split at h
      · rename_i he; rw [he]; intro p hp; cases hp
      · rw [hl] at h
        simp only at h
        cases hb : (loose T ops).all (steady T ops l)
        · rw [hb] at h; cases h
        · exact List.all_eq_true.1 hb
    obtain ⟨S, V, hCan, hS0, s2, hlast, hSN⟩ := canon_of hg hwf hl hst
    have hs2 : s2 = s' := by
      obtain ⟨_, _, _, s3, g1, g2⟩ := evTrace_spec _ _ _ hl
      rw [hlast] at g1; cases g1
      rw [hseq] at g2; cases g2; rfl
    subst hs2
    subst hS0
    have hd0 : ∀ b K, m b = some K → b < (S 0).H.n := hr.dom
    have hb0 : Bas m (S 0).H { w with drawn := w.drawn + 1 } := ⟨⟨hr.bas.ksz, hr.bas.low⟩, hr.bas.own⟩
    refine wp_region_any hP.mixed (draw_sound (m0 := m) (a0 := a) (w0 := { w with drawn := w.drawn + 1 }) hP.tab hP.fns hC hCan hD hd0 hb0 hbox ?_ ops.size (Array.replicate ops.size false) 0 m a _ ?_ ?_)
    · intro L m' a' w' hI hall
      refine ⟨rfl, m', ?_, hI.size, hI.defers, ?_, Fr.drew (w.drawn + 1) ?_⟩
      · intro t
        obtain ⟨e1, e2⟩ := hCan.tms hD t ops.size (Nat.le_refl _)
        rw [← hSN]
        by_cases hex : ∃ (i : Nat) (oi : Oper), ops[i]? = some oi ∧ oi.dst = some t
        · obtain ⟨i, oi, hi, hd⟩ := hex
          have hlt := (Array.getElem?_eq_some_iff.1 hi).1
          rw [e1 i oi hlt hi hd]
          exact (hI.tmv i oi t hi (hall i hlt) hd).mono (cut_le _ _)
        · rw [e2 fun i oi _ hi hd => hex ⟨i, oi, hi, hd⟩]
          exact (hI.tm0 t fun i oi hi _ hd => hex ⟨i, oi, hi, hd⟩).mono hI.le
      · rw [← hSN]
        refine ⟨⟨fun b K hb => ?_, fun b K o hb ho => ?_, fun b1 b2 K1 K2 h1 h2 h3 h4 hne => ?_⟩, ⟨hI.onb hb0, fun b K hb hw => ?_⟩⟩
        rotate_left 3
        · obtain ⟨o1, k1, k2⟩ := hw
          exact hI.own' hb0 hd0 hb (hCan.gn ops.size (Nat.le_refl _) b (by rw [k1]; rfl)) k1 k2
        · rcases hI.dom b K hb with h1 | ⟨i, h1, _, _, h4⟩
          · exact Nat.lt_of_lt_of_le (hd0 b K h1) (hCan.monoLe _ 0 (by omega) (Nat.le_refl _))
          · exact Nat.lt_of_lt_of_le h4 (hCan.monoLe _ (i + 1) (by omega) (Nat.le_refl _))
        · have hlt := hCan.gn ops.size (Nat.le_refl _) b (by rw [ho]; rfl)
          exact (hI.blk b K o hb hlt ho).mono (cut_le _ _) rfl
        · obtain ⟨o1, k1, k2⟩ := h3
          obtain ⟨o2, k3⟩ := Option.isSome_iff_exists.1 h4
          have hl1 := hCan.gn ops.size (Nat.le_refl _) b1 (by rw [k1]; rfl)
          have hl2 := hCan.gn ops.size (Nat.le_refl _) b2 (by rw [k3]; rfl)
          exact hI.inj b1 b2 K1 K2 o1 o2 h1 h2 hne (.inl ⟨hl1, k1⟩) k2 (.inl ⟨hl2, k3⟩)
      · rw [← hSN]
        refine ⟨hI.os, hI.tape, hI.output, hI.wsize, hI.keep, hI.le, hCan.monoLe _ 0 (by omega) (Nat.le_refl _), fun b K hb => ?_, fun b K hb hl' => ?_, hI.wr0, hI.lv0, hI.akeep⟩
        · rcases hI.dom b K hb with h1 | ⟨i, h1, _, h3, _⟩
          · exact .inl h1
          · exact .inr (Nat.le_trans (hCan.monoLe i 0 (by omega) (by omega)) h3)
        · obtain ⟨o, ho⟩ := Option.isSome_iff_exists.1 hl'
          exact hI.live b K o hb (.inl ⟨hCan.gn ops.size (Nat.le_refl _) b hl', ho⟩)
    · have := List.countP_le_length (p := fun i => !(Array.replicate ops.size false).getD i false) (l := List.range ops.size)
      simpa using this
    · have hfalse : ∀ i, (Array.replicate ops.size false).getD i false = false := by
        intro i
        simp only [Array.getD_eq_getD_getElem?, Array.getElem?_replicate]
        split <;> rfl
      have hcutn : m.le (cut m (S 0).H.n) := fun b K hb => cut_mk (hd0 b K hb) hb
      have hr' := hr.drew (w.drawn + 1)
      have hcur : ∀ b K o, m b = some K → Cur S ops.size 0 b o → (S 0).H.get b = some o := by
        intro b K o hb hc
        rcases hc with ⟨_, h2⟩ | ⟨h1, _⟩
        · exact h2
        · have := hd0 b K hb; omega
      exact {
        closed := fun j o _ hl' => by rw [hfalse] at hl'; cases hl'
        sizeL := by simp
        front := ⟨by omega, fun q hq => by omega, fun q _ _ => hfalse q⟩
        le := Map.le_refl m
        dom := fun b K hb => .inl hb
        size := hn
        defers := rfl
        tmv := fun i oi d _ hl' => by rw [hfalse] at hl'; cases hl'
        tm0 := fun t _ => ht t
        blk := fun b K ob hb hlt ho => (hr'.blk b K ob hb ho).mono hcutn rfl
        blk2 := fun i b K ob _ _ hl' => by rw [hfalse] at hl'; cases hl'
        late := fun i hi => by omega
        inj := fun b1 b2 K1 K2 o1 o2 h1 h2 h3 h4 h5 h6 => hr'.inj b1 b2 K1 K2 h1 h2 ⟨o1, hcur _ _ _ h1 h4, h5⟩ (by rw [hcur _ _ _ h2 h6]; rfl) h3
        wr0 := fun _ _ h => h
        lv0 := fun _ _ h => h
        os := rfl, tape := rfl, output := rfl
        wsize := Nat.le_refl _
        keep := fun _ _ _ => rfl
        live := fun b K ob hb hc => .inl ⟨hb, by rw [hcur _ _ _ hb hc]; rfl⟩
        akeep := fun _ _ _ => rfl }
end
section
variable {P : Program} {T : Tab}
theorem initGo_get : ∀ (l : List Value) (k : Nat) (t : Tr Value) (i : Nat), (initTm.go l k t).get i = if k ≤ i ∧ i < k + l.length then l[i - k]? else t.get i := by
  intro l
  induction l with
  | nil => intro k t i; rw [initTm.go, if_neg (by simp only [List.length_nil]; omega)]
  | cons v l ih =>
    intro k t i
    rw [initTm.go, ih, Tr.get_put]
    by_cases h : k + 1 ≤ i ∧ i < k + 1 + l.length
    · rw [if_pos h, if_pos (by simp; omega)]
      have : i - k = (i - (k + 1)) + 1 := by omega
      rw [this]; simp
    · rw [if_neg h]
      by_cases e : i = k
      · subst e; rw [if_pos rfl, if_pos (by simp)]; simp
      · rw [if_neg e, if_neg (by simp at *; omega)]
theorem init_rel {m : Map} {args args' : Array Value} (h : VRs m args.toList args'.toList) (k : Nat) : TmRel m (initTm 0 args) (args' ++ Array.replicate k undef) := by
  intro t
  unfold initTm
  rw [initGo_get]
  have hs : args.size = args'.size := h.arr.1
  simp only [Nat.zero_le, true_and, Nat.zero_add, Array.length_toList, Nat.sub_zero, Array.getElem?_toList, Array.getD_eq_getD_getElem?]
  by_cases ht : t < args.size
  · rw [if_pos ht, Array.getElem?_append_left (by omega), Array.getElem?_eq_getElem ht, Array.getElem?_eq_getElem (by omega : t < args'.size)]
    exact h.arr.2 t ht (by omega)
  · rw [if_neg ht, Array.getElem?_append_right (by omega), Array.getElem?_replicate]
    have : (Tr.lf : Tr Value).get t = none := by cases t <;> rfl
    rw [this]
    split <;> exact VR.of_closed rfl
theorem results_sound [Bs] (hT : TabOk P T) {m : Map} {H : Heap} {w : World} {tm : Tr Value} {arr : Array Value} (ht : TmRel m tm arr) (hr : Rep P m H w) {fn : Func} {v : Value} (h : aresults T tm H fn.results = some v) :
    ∃ v', (results fn arr).run P w = .ok v' w ∧ VR m v v' := by
  have key : ∀ (l : List ResultVar) (vs : List Value), results1 T tm H l = some vs → ∀ g : ResultVar → Sem Value, (∀ t, g (.tmp t) = pure (arr.getD t undef)) → (∀ a t, g (.cell a t) = (do loadVar t (← asAddr (arr.getD a undef)))) →
      ∃ vs', (l.mapM g).run P w = .ok vs' w ∧ VRs m vs vs' := by
    intro l
    induction l with
    | nil => intro vs h g _ _; simp only [results1] at h; cases h; exact ⟨[], by simp, VRs.nil⟩
    | cons x l ih =>
      intro vs h g g1 g2
      cases x with
      | tmp t =>
        simp only [results1] at h
        split at h
        · rename_i l' hl
          cases h
          obtain ⟨vs', k1, k2⟩ := ih _ hl g g1 g2
          exact ⟨arr.getD t undef :: vs', by simp only [List.mapM_cons, g1, Sem.run_bind, Sem.run_pure, Result.andThen_ok, k1], VRs.cons (ht t) k2⟩
        · cases h
      | cell a t =>
        simp only [results1] at h
        split at h
        · rename_i u l' hu hl
          cases h
          obtain ⟨vs', k1, k2⟩ := ih _ hl g g1 g2
          obtain ⟨v', k3, k4⟩ := aload_sound hT hu hr (ht a)
          have hptr : ∃ ad, arr.getD a undef = .pointer (some ad) := by
            have hv := ht a
            unfold aload at hu
            split at hu
            · rename_i b off he
              rw [he] at hv
              generalize arr.getD a undef = y at hv
              cases hv with
              | same => exact ⟨_, rfl⟩
              | ptr => exact ⟨_, rfl⟩
            · cases hu
          obtain ⟨ad, had⟩ := hptr
          rw [had] at k3
          have k5 : (loadVar t ad).run P w = .ok v' w := by simpa [Instr.loadAt, Instr.sureAddr] using k3
          exact ⟨v' :: vs', by simp only [List.mapM_cons, g2, had, asAddr, Sem.run_bind, Sem.run_pure, Result.andThen_ok, k5, k1], VRs.cons k4 k2⟩
        · cases h
  unfold aresults at h
  have hmain : ∀ vs, results1 T tm H fn.results.toList = some vs → ∃ vs', VRs m vs vs' ∧ (results fn arr).run P w = .ok (if h : vs'.toArray.size = 1 then vs'.toArray[0] else .tuple vs'.toArray) w := by
    intro vs hvs
    have hg : ∀ g : ResultVar → Sem Value, (∀ t, g (.tmp t) = pure (arr.getD t undef)) → (∀ a t, g (.cell a t) = (do loadVar t (← asAddr (arr.getD a undef)))) →
        ∃ vs', VRs m vs vs' ∧ ((do let vs ← fn.results.mapM g; pure (if h : vs.size = 1 then vs[0] else .tuple vs)) : Sem Value).run P w = .ok (if h : vs'.toArray.size = 1 then vs'.toArray[0] else .tuple vs'.toArray) w := by
      intro g g1 g2
      obtain ⟨vs', k1, k2⟩ := key _ _ hvs g g1 g2
      refine ⟨vs', k2, ?_⟩
      rw [Array.mapM_eq_mapM_toList]
      simp only [map_eq_pure_bind, Sem.run_bind, k1, Result.andThen_ok, Sem.run_pure]
    exact hg _ (fun _ => rfl) (fun _ _ => rfl)
  split at h
  · rename_i u hvs
    cases h
    obtain ⟨vs', k1, k2⟩ := hmain _ hvs
    obtain ⟨y, hy, hv⟩ := k1.2 0 _ rfl
    have hl : vs'.length = 1 := by rw [← k1.1]; rfl
    refine ⟨y, ?_, hv⟩
    rw [k2, dif_pos (by simpa using hl)]
    have : vs'.toArray[0]'(by simp [hl]) = y := by
      have := List.getElem?_eq_some_iff.1 hy
      simpa using this.2
    rw [this]
  · rename_i l hne hvs
    cases h
    obtain ⟨vs', k1, k2⟩ := hmain _ hvs
    refine ⟨.tuple vs'.toArray, ?_, ?_⟩
    · rw [k2, dif_neg]
      intro hs
      have hl : l.length = 1 := by rw [k1.1]; simpa using hs
      match l, hl with
      | [u], _ => exact hne u rfl
    · have : VRs m l.toArray.toList vs'.toArray.toList := by simpa using k1
      exact .tuple this.arr.1 this.arr.2
  · cases h
/-- The evaluator's memory only grows. -/
theorem evCode_grows (hM : ∀ f l H v H', T.mor f l H = some (v, H') → Grows H H') : ∀ (k n : Nat) (c : Code) (s : St) (x : Xt) (s' : St), evCode P T k n c s = some (x, s') → Grows s.H s'.H := by
  intro k
  induction k with
  | zero => intro n c s x s' h; simp [evCode] at h
  | succ k ih =>
    intro n c s x s' h
    cases c <;> simp only [evCode] at h
    case skip => cases h; exact Grows.refl _
    case label => cases h; exact Grows.refl _
    case ret => cases h; exact Grows.refl _
    case exit => cases h; exact Grows.refl _
    case region id ops draw =>
      split at h
      · rename_i s1 h1
        cases h
        refine evOps_grows ?_ _ _ _ (evRegion_grows ?_ h1)
        all_goals
          intro f args H v H' hc
          simp only at hc
          split at hc
          · cases hc; exact Grows.refl _
          split at hc
          · split at hc
            · split at hc
              · rename_i he
                split at hc
                · cases hc; exact ih _ _ _ _ _ he
                · cases hc
              · rename_i he
                split at hc
                · cases hc; exact ih _ _ _ _ _ he
                · cases hc
              · cases hc
            · cases hc
          · exact hM _ _ _ _ _ hc
      · cases h
    case seq a b =>
      split at h
      · rename_i s1 h1
        exact (ih _ _ _ _ _ h1).trans (ih _ _ _ _ _ h)
      · exact ih _ _ _ _ _ h
    case cond c a b =>
      split at h
      · exact ih _ _ _ _ _ h
      · cases h
    case block id c =>
      split at h
      · rename_i i s1 h1
        cases hb : i.beq id <;> rw [hb] at h <;> simp only [cond_false, cond_true] at h <;> cases h <;> exact ih _ _ _ _ _ h1
      · exact ih _ _ _ _ _ h
    case loop c =>
      split at h
      · rename_i s1 h1
        exact (ih _ _ _ _ _ h1).trans (ih _ _ _ _ _ h)
      · exact ih _ _ _ _ _ h
    case scope c => exact ih _ _ _ _ _ h
    all_goals cases h
end
end Go.Ev
/- What the evaluator comes to, the model comes to: the theorem. -/
namespace Go.Ev
open Go
set_option linter.unusedVariables false
set_option linter.unusedSimpArgs false
section
variable {P : Program} {T : Tab}
theorem evCall_eq (k : Nat) (f : FuncId) (args : Array Value) (H : Heap) : evBody P T k f args H = (match T.fn f with
      | some fn => match fn.body with
        | some c => match evCode P T k (args.size + (fn.ntmps - args.size)) c ⟨initTm 0 args, H⟩ with
          | some (.normal, s') => (match aresults T s'.tm s'.H fn.results with | some v => some (v, s'.H) | none => none)
          | some (.ret, s') => (match aresults T s'.tm s'.H fn.results with | some v => some (v, s'.H) | none => none)
          | _ => none
        | none => none
      | none => T.mor f args.toList H) := rfl
theorem evCall_inv {k : Nat} {f : FuncId} {args : Array Value} {H : Heap} {v : Value} {H' : Heap} (h : evBody P T k f args H = some (v, H')) :
    (∃ fn c x s', T.fn f = some fn ∧ fn.body = some c ∧ evCode P T k (args.size + (fn.ntmps - args.size)) c ⟨initTm 0 args, H⟩ = some (x, s') ∧ (x = .normal ∨ x = .ret) ∧ aresults T s'.tm s'.H fn.results = some v ∧ s'.H = H') ∨
    (T.fn f = none ∧ T.mor f args.toList H = some (v, H')) := by
  rw [evCall_eq] at h
  split at h
  · rename_i fn hf
    split at h
    · rename_i c hb
      split at h
      · rename_i s' he
        split at h
        · rename_i u hu; cases h; exact .inl ⟨fn, c, _, s', hf, hb, he, .inl rfl, hu, rfl⟩
        · cases h
      · rename_i s' he
        split at h
        · rename_i u hu; cases h; exact .inl ⟨fn, c, _, s', hf, hb, he, .inr rfl, hu, rfl⟩
        · cases h
      · cases h
    · cases h
  · rename_i hf
    exact .inr ⟨hf, h⟩
theorem evCall_grows (hM : ∀ f l H v H', T.mor f l H = some (v, H') → Grows H H') (k : Nat) : CallGrows (evCall P T k) := by
  intro f args H v H' h
  unfold evCall at h
  split at h
  · cases h; exact Grows.refl _
  · rcases evCall_inv h with ⟨fn, c, x, s', _, _, he, _, _, rfl⟩ | ⟨_, hm⟩
    · exact evCode_grows hM _ _ _ _ _ _ he
    · exact hM _ _ _ _ _ hm
/-- What holds of the code at a fuel. -/
def CodeSound [Bs] (P : Program) (T : Tab) (k : Nat) : Prop :=
  ∀ (n : Nat) (c : Code) (s : St) (x : Xt) (s' : St), evCode P T k n c s = some (x, s') → codeOk T c = true → HWf s.H → ∀ (m : Map) (a : Act) (w : World), TmRel m s.tm a.tmps → a.tmps.size = n → Rep P m s.H w →
    c.wp P (Post P n m s.H w a x s') a w
def LoopSound [Bs] (P : Program) (T : Tab) (k : Nat) : Prop :=
  ∀ (n : Nat) (c : Code) (s : St) (x : Xt) (s' : St), evCode P T k n (.loop c) s = some (x, s') → codeOk T c = true → HWf s.H → ∀ (m : Map) (a : Act) (w : World), TmRel m s.tm a.tmps → a.tmps.size = n → Rep P m s.H w →
    Code.rounds P c (Post P n m s.H w a x s') k a w
theorem call_of_code [Bs] (hP : ProgOk P T) {k : Nat} (hk : CodeSound P T k) : CallOk P (evCall P T k) := by
  intro f args H v H' h0 hwf m w args' hr hargs
  have h : evBody P T k f args H = some (v, H') ∨ (T.orc f args.toList = some v ∧ H' = H) := by
    unfold evCall at h0
    split at h0
    · rename_i v0 hv0; cases h0; exact .inr ⟨hv0, rfl⟩
    · exact .inl h0
  rcases h with h | ⟨h, rfl⟩
  case inr =>
    obtain ⟨h1, h2, h3⟩ := hP.orc f _ v h
    have he : args' = args := by
      apply Array.ext'
      refine List.ext_getElem? fun i => ?_
      by_cases hi : i < args.size
      · obtain ⟨y, hy, hv⟩ := hargs.2 i args[i] (by simp [hi])
        rw [hy, hv.closed_eq (List.all_eq_true.1 h2 _ (by simp))]
        simp [hi]
      · rw [List.getElem?_eq_none (by have := hargs.1; simp at this ⊢; omega), List.getElem?_eq_none (by simp; omega)]
    subst he
    have h4 := h3 w hr.bas.toOnBs
    simp only [Array.toArray_toList] at h4
    refine h4.mono fun e w' he => ?_
    obtain ⟨rfl, hq⟩ := he
    refine ⟨v, m, rfl, VR.of_closed h1, ⟨⟨hr.dom, fun b L o hb ho => ?_, hr.inj⟩, ⟨⟨Nat.le_trans hr.bas.ksz hq.size, fun c hc => (hq.block c (Nat.lt_of_lt_of_le hc hr.bas.ksz)).trans (hr.bas.low c hc)⟩, hr.bas.own⟩⟩, hq.os, hq.tape, hq.output, hq.size, fun c hc _ => hq.block c hc, Map.le_refl m, Nat.le_refl _, fun _ _ h => .inl h, fun _ _ h k => .inl ⟨h, k⟩, fun _ _ h => h, fun _ _ h => h, fun _ _ _ => rfl⟩
    have hbk := hr.blk b L o hb ho
    exact hbk.mono (Map.le_refl m) (hq.block _ hbk.lt)
  rcases evCall_inv h with ⟨fn, c, x, s', hf, hb, he, hx, hres, rfl⟩ | ⟨_, hm⟩
  case inr =>
    exact (hP.mor f args H v H' hm).2 m w args' hwf hr hargs
  obtain ⟨h1, h2, h3⟩ := hP.fns.fn f fn hf
  have hs : args.size = args'.size := hargs.arr.1
  have hw := hk _ _ _ _ _ he (hP.code f fn c hf hb) hwf m { tmps := args' ++ Array.replicate (fn.ntmps - args'.size) undef, defers := [] } w (init_rel hargs _) (by simp [hs]) hr
  refine calls_of_wp h1 hb (wp_mono hw fun e a' w' hp => ?_)
  obtain ⟨rfl, m', g1, g2, g3, g4, g5⟩ := hp
  obtain ⟨v', k1, k2⟩ := results_sound hP.tab g1 g4 hres
  rcases hx with rfl | rfl
  · exact ⟨g3, v', k1, v', m', rfl, k2, g4, g5⟩
  · exact ⟨g3, v', k1, v', m', rfl, k2, g4, g5⟩
theorem code_sound [Bs] (hP : ProgOk P T) : ∀ k, CodeSound P T k ∧ LoopSound P T k := by
  intro k
  induction k with
  | zero => exact ⟨fun n c s x s' h => by simp [evCode] at h, fun n c s x s' h => by simp [evCode] at h⟩
  | succ k ih =>
    obtain ⟨ihc, ihl⟩ := ih
    have loopS : LoopSound P T (k + 1) := by
      intro n c s x s' h hok hwf m a w ht hn hr
      simp only [evCode] at h
      rw [rounds_succ]
      split at h
      · rename_i s1 h1
        have hwf1 := (evCode_grows (fun f l H v H' hm => (hP.mor f l.toArray H v H' (by simpa using hm)).1) _ _ _ _ _ _ h1).2 hwf
        refine wp_mono (ihc n c s _ s1 h1 hok hwf m a w ht hn hr) fun e a' w' hp => ?_
        obtain ⟨rfl, m', g1, g2, g3, g4, g5⟩ := hp
        exact rounds_mono (fun e a2 w2 h2 => Post.from hr g5 g3 h2) k a' w' (ihl n c s1 x s' h hok hwf1 m' a' w' g1 g2 g4)
      · rename_i hnot
        refine wp_mono (ihc n c s x s' h hok hwf m a w ht hn hr) fun e a' w' hp => ?_
        obtain ⟨rfl, hrest⟩ := hp
        · cases x with
          | normal => exact absurd h (hnot _)
          | ret => exact ⟨rfl, hrest⟩
          | exit i => exact ⟨rfl, hrest⟩
    refine ⟨fun n c s x s' h hok hwf m a w ht hn hr => ?_, loopS⟩
    have hfin : Post P n m s.H w a .normal s .normal a w := ⟨rfl, m, ht, hn, rfl, hr, Fr.refl _ _ _⟩
    cases c with
    | skip => simp only [evCode] at h; cases h; exact wp_skip hfin
    | label l => simp only [evCode] at h; cases h; exact wp_label hfin
    | ret => simp only [evCode] at h; cases h; exact wp_ret ⟨rfl, m, ht, hn, rfl, hr, Fr.refl _ _ _⟩
    | exit i => simp only [evCode] at h; cases h; exact wp_exit ⟨rfl, m, ht, hn, rfl, hr, Fr.refl _ _ _⟩
    | region id ops draw =>
      simp only [evCode] at h
      split at h
      · rename_i s1 h1
        cases h
        exact region_sound hP (call_of_code hP ihc) (evCall_grows (fun f l H v H' hm => (hP.mor f l.toArray H v H' (by simpa using hm)).1) k) h1 hok hwf ht hn hr
      · cases h
    | seq c1 c2 =>
      simp only [evCode] at h
      simp only [codeOk, Bool.and_eq_true] at hok
      split at h
      · rename_i s1 h1
        have hwf1 := (evCode_grows (fun f l H v H' hm => (hP.mor f l.toArray H v H' (by simpa using hm)).1) _ _ _ _ _ _ h1).2 hwf
        refine wp_seq (wp_mono (ihc n c1 s _ s1 h1 hok.1 hwf m a w ht hn hr) fun e a' w' hp => ?_)
        obtain ⟨rfl, m', g1, g2, g3, g4, g5⟩ := hp
        exact wp_mono (ihc n c2 s1 x s' h hok.2 hwf1 m' a' w' g1 g2 g4) fun e a2 w2 h2 => Post.from hr g5 g3 h2
      · rename_i hnot
        refine wp_seq (wp_mono (ihc n c1 s x s' h hok.1 hwf m a w ht hn hr) fun e a' w' hp => ?_)
        obtain ⟨rfl, hrest⟩ := hp
        · cases x with
          | normal => exact absurd h (hnot _)
          | ret => exact ⟨rfl, hrest⟩
          | exit i => exact ⟨rfl, hrest⟩
    | cond c0 c1 c2 =>
      simp only [evCode] at h
      simp only [codeOk, Bool.and_eq_true] at hok
      split at h
      · rename_i t hc
        have hv := (ht.op [c0] c0 (by simp) _ hc).plain_eq rfl
        refine wp_cond hv ?_
        cases t
        · exact ihc n c2 s x s' h hok.2 hwf m a w ht hn hr
        · exact ihc n c1 s x s' h hok.1 hwf m a w ht hn hr
      · cases h
    | block id c1 =>
      simp only [evCode] at h
      simp only [codeOk] at hok
      refine wp_block ?_
      split at h
      · rename_i i s1 h1
        refine wp_mono (ihc n c1 s _ s1 h1 hok hwf m a w ht hn hr) fun e a' w' hp => ?_
        obtain ⟨rfl, hrest⟩ := hp
        · cases hb : i.beq id
          · rw [hb] at h; cases h
            have hne : ¬ i = id := fun e => by subst e; simp at hb
            show (if i = id then _ else _)
            rw [if_neg hne]
            exact ⟨rfl, hrest⟩
          · rw [hb] at h; cases h
            have he : i = id := Nat.eq_of_beq_eq_true hb
            show (if i = id then _ else _)
            rw [if_pos he]
            exact ⟨rfl, hrest⟩
      · rename_i hnot
        refine wp_mono (ihc n c1 s x s' h hok hwf m a w ht hn hr) fun e a' w' hp => ?_
        obtain ⟨rfl, hrest⟩ := hp
        · cases x with
          | normal => exact ⟨rfl, hrest⟩
          | ret => exact ⟨rfl, hrest⟩
          | exit i => exact absurd h (hnot _ _)
    | loop c1 =>
      simp only [codeOk] at hok
      exact wp_loop_rounds (k + 1) (loopS n c1 s x s' h hok hwf m a w ht hn hr)
    | scope c1 =>
      simp only [evCode] at h
      simp only [codeOk] at hok
      refine wp_scope_straight (wp_mono (ihc n c1 s x s' h hok hwf m a w ht hn hr) fun e a' w' hp => ?_)
      obtain ⟨rfl, hrest⟩ := hp
      · cases x <;> exact ⟨rfl, hrest⟩
    | _ => simp [evCode] at h
/-- **What the evaluator comes to, the model comes to.** -/
theorem evCall_sound [Bs] (hP : ProgOk P T) {k : Nat} {f : FuncId} {args : Array Value} {H : Heap} {v : Value} {H' : Heap} (h : evCall P T k f args H = some (v, H')) (hwf : HWf H) {m : Map} {w : World} {args' : Array Value}
    (hr : Rep P m H w) (hargs : VRs m args.toList args'.toList) : Calls P f args' w (CallPost P m H w v H') :=
  call_of_code hP (code_sound hP k).1 f args H v H' h hwf m w args' hr hargs
end
end Go.Ev
/- The evaluator's tables, read off a program. -/
namespace Go.Ev
open Go
set_option linter.unusedVariables false
def tabOf (P : Program) : Tab where
  under t := P.underlying t
  size t := match P.info? t with | some i => some i.size | none => none
  bytes t := match P.info? t with | some i => some i.bytes | none => none
  zero t := match P.info? t with
    | some i => match i.zero with
      | some z => bif z.cells.size.beq i.size && z.cells.all (·.oneCell') then some z else none
      | none => none
    | none => none
  fn f := match P.funcs[f]? with
    | some fn => bif fn.body.isSome then some fn else none
    | none => none
  orc _ _ := none
theorem tabOf_ok (P : Program) : TabOk P (tabOf P) where
  under := fun t d h => h
  size := fun t n h => by
    simp only [tabOf] at h
    split at h
    · rename_i i hi; cases h; exact ⟨i, hi, rfl⟩
    · cases h
  bytes := fun t n h => by
    simp only [tabOf] at h
    split at h
    · rename_i i hi; cases h; exact ⟨i, hi, rfl⟩
    · cases h
  zero := fun t z h => by
    simp only [tabOf] at h
    split at h
    · rename_i i hi
      split at h
      · rename_i z' hz
        cases hb : (z'.cells.size.beq i.size && z'.cells.all (·.oneCell'))
        · rw [hb] at h; cases h
        · rw [hb] at h; cases h
          simp only [Bool.and_eq_true] at hb
          exact ⟨i, hi, hz, Nat.eq_of_beq_eq_true hb.1, hb.2⟩
      · cases h
    · cases h
def fnOk (P : Program) (f : FuncId) : Bool := match P.funcs[f]? with
  | some fn => match fn.body with
    | some c => codeOk (tabOf P) c && !(fn.name == "runtime.NumGoroutine")
    | none => true
  | none => true
def progOkB (P : Program) : Bool := (List.range P.funcs.size).all (fnOk P)
theorem progOk_of [Bs] {P : Program} (hm : P.follows .mixedOrders = true) (h : progOkB P = true) : ProgOk P (tabOf P) := by
  have key : ∀ f fn, (tabOf P).fn f = some fn → P.funcs[f]? = some fn ∧ fn.body.isSome = true ∧ fnOk P f = true := by
    intro f fn hf
    simp only [tabOf] at hf
    split at hf
    · rename_i fn' hfn
      cases hb : fn'.body.isSome
      · rw [hb] at hf; cases hf
      · rw [hb] at hf; cases hf
        exact ⟨hfn, hb, List.all_eq_true.1 h f (by simpa using (Array.getElem?_eq_some_iff.1 hfn).1)⟩
    · cases hf
  refine ⟨tabOf_ok P, ⟨fun f fn hf => ?_, fun f h => (by cases h)⟩, fun f fn c hf hb => ?_, hm, fun f args v h => (by cases h), fun f args H v H' h => (by cases h)⟩
  · obtain ⟨h1, h2, h3⟩ := key f fn hf
    refine ⟨h1, h2, ?_⟩
    obtain ⟨c, hc⟩ := Option.isSome_iff_exists.1 h2
    unfold fnOk at h3
    simp only [h1, hc, Bool.and_eq_true, Bool.not_eq_true'] at h3
    exact h3.2
  · obtain ⟨h1, h2, h3⟩ := key f fn hf
    unfold fnOk at h3
    simp only [h1, hb, Bool.and_eq_true] at h3
    exact h3.1
end Go.Ev
