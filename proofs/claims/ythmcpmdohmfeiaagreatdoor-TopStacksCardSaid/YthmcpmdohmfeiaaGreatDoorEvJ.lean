/- The operations that look at no memory. -/
import Derived.Test.YthmcpmdohmfeiaaGreatDoorEvI
namespace Go.Ev
open Go
set_option linter.unusedVariables false
set_option linter.unusedSimpArgs false
theorem Heap.push_inj {H : Heap} {o o' : Ob} (h : H.push o = H.push o') : o = o' := by
  have := congrArg (fun H' => H'.get H.n) h
  simpa [Heap.get_push] using this
section
variable {P : Program} {T : Tab} (hT : TabOk P T) (hF : FnsOk P T) {m : Map} {H H' : Heap} {tm : Tr Value} {a : Act} {o : Oper} {r : Res}
def Free (P : Program) (m : Map) (H : Heap) (a : Act) (o : Oper) (r : Res) (H' : Heap) : Prop :=
  (H' = H ∧ ∃ v, r = .val v ∧ ∀ w, ∃ v', (execOp a.eval o).run P w = .ok (.value v') w ∧ VR m v v') ∨
  (∃ ob v, H' = H.push ob ∧ r = .val v ∧ ∀ w, ∃ q, Mk P m H.n w q v ob ∧ (execOp a.eval o).run P w = q.andThen fun v' w' => .ok (.value v') w')
theorem free_val {u : Option Value} (hv : val u H = some (r, H')) (hrun : ∀ w v, u = some v → ∃ v', (execOp a.eval o).run P w = .ok (.value v') w ∧ VR m v v') : Free P m H a o r H' := by
  unfold val at hv
  split at hv
  · cases hv
    exact .inl ⟨rfl, _, rfl, fun w => hrun w _ rfl⟩
  · cases hv
include hT
theorem aconvert_free {w : World} {src dst : TypeId} {x x' v : Value} (hns : ∀ e, T.under src ≠ some (.slice e)) (h : aconvert T src dst x H = some v) (hx : VR m x x') : (Go.convert src dst x').run P w = .ok v w ∧ plain v = true := by
  unfold aconvert at h
  split at h
  · rename_i sd k k' n hs hd
    cases h
    rw [hx.plain_eq rfl]
    refine ⟨?_, rfl⟩
    cases sd <;> simp [Go.convert, run_under hT hs, run_under hT hd, Conv.intToInt]
  · rename_i hs _; exact absurd hs (hns _)
  · rename_i hs _; exact absurd hs (hns _)
  · cases h
theorem acall_free {c : Call} (hcls : cls T (.call c) = .free) (hop : o.op = .call c) (h : acall P T tm o c H = some (r, H')) (ht : OpRel m tm a o.op.operands.toList) : Free P m H a o r H' := by
  unfold acall at h
  split at h
  · rename_i f hc
    simp [cls, hc] at hcls
  · cases h
  · rename_i b hc
    split at h
    · simp [cls, hc] at hcls
    · simp [cls, hc] at hcls
    · rename_i t s n c' hat hl
      have hvl := aevals_sound (fun x hx => ht x (by simp [hop, Op.operands, Call.operands, hc] at hx ⊢; exact hx)) hl
      split at h
      · rename_i e hu
        cases h
        obtain ⟨callee, args, argTypes⟩ := c
        simp only at hc hat hl hvl
        subst hc
        obtain ⟨args⟩ := args
        obtain ⟨argTypes⟩ := argTypes
        simp only at hat hl hvl
        subst hat
        have hargs : ∃ p, args = [p] := by
          have := hvl.1
          simp at this
          match args, this with
          | [p], _ => exact ⟨p, rfl⟩
        obtain ⟨p, rfl⟩ := hargs
        have e0 := hvl.2 0 _ rfl
        simp at e0
        have : ∃ s' c'', a.eval p = .slice s' n c'' := by
          generalize a.eval p = pv at e0
          cases e0 with
          | same => exact ⟨_, _, rfl⟩
          | slice => exact ⟨_, _, rfl⟩
        obtain ⟨s', c'', hp⟩ := this
        refine .inl ⟨rfl, _, rfl, fun w => ⟨.int .i64 n, ?_, .same rfl⟩⟩
        simp [execOp, hop, resolve, invoke, builtin, hp, Builtin.len_, run_under hT hu, goInt]
      · cases h
    · rename_i t b hat hl
      split at h
      · rename_i kt b' o' c' l hk hm
        obtain ⟨kt, et⟩ := kt
        have hu := kts_spec hk
        simp [cls, hc, hat, hu] at hcls
      · cases h
    · simp [cls, hc] at hcls
    · simp [cls, hc] at hcls
    · cases h
    · cases h
    · rename_i k x k' y hl
      have hvl := aevals_sound (fun x hx => ht x (by simp [hop, Op.operands, Call.operands, hc] at hx ⊢; exact hx)) hl
      cases h
      obtain ⟨callee, args, argTypes⟩ := c
      simp only at hc hl hvl
      subst hc
      obtain ⟨args⟩ := args
      simp only at hl hvl
      have hargs : ∃ p q, args = [p, q] := by
        have := hvl.1
        simp at this
        match args, this with
        | [p, q], _ => exact ⟨p, q, rfl⟩
      obtain ⟨p, q, rfl⟩ := hargs
      have e0 := hvl.2 0 _ rfl
      have e1 := hvl.2 1 _ rfl
      simp at e0 e1
      have e0 := e0.plain_eq rfl
      have e1 := e1.plain_eq rfl
      refine .inl ⟨rfl, _, rfl, fun w => ⟨_, ?_, .same rfl⟩⟩
      simp [execOp, hop, resolve, invoke, builtin, e0, e1, Builtin.max_, Builtin.max2]
    · rename_i k x k' y hl
      have hvl := aevals_sound (fun x hx => ht x (by simp [hop, Op.operands, Call.operands, hc] at hx ⊢; exact hx)) hl
      cases h
      obtain ⟨callee, args, argTypes⟩ := c
      simp only at hc hl hvl
      subst hc
      obtain ⟨args⟩ := args
      simp only at hl hvl
      have hargs : ∃ p q, args = [p, q] := by
        have := hvl.1
        simp at this
        match args, this with
        | [p, q], _ => exact ⟨p, q, rfl⟩
      obtain ⟨p, q, rfl⟩ := hargs
      have e0 := hvl.2 0 _ rfl
      have e1 := hvl.2 1 _ rfl
      simp at e0 e1
      have e0 := e0.plain_eq rfl
      have e1 := e1.plain_eq rfl
      refine .inl ⟨rfl, _, rfl, fun w => ⟨_, ?_, .same rfl⟩⟩
      simp [execOp, hop, resolve, invoke, builtin, e0, e1, Builtin.min_, Builtin.min2]
    · cases h
    · cases h
    · refine free_val h fun w v hv => ?_
      obtain ⟨h1, h2⟩ := fallback_sound (P := P) (w := w) ht (by rw [hop]; simp) hv
      exact ⟨v, h1, VR.of_closed h2⟩
theorem free_sound (hcls : cls T o.op = .free) (hi : ∀ e x, o.op = .box e x → ∃ i, P.info? e = some i) (h : aop P T tm o H = some (r, H')) (ht : OpRel m tm a o.op.operands.toList) : Free P m H a o r H' := by
  unfold aop at h
  split at h
  · rename_i x hop
    exact free_val h fun w v hv => ⟨a.eval x, by simp [execOp, hop], ht _ (by simp [hop, Op.operands]) _ hv⟩
  · rename_i x hop
    exact free_val h fun w v hv => ⟨a.eval x, by simp [execOp, hop], ht _ (by simp [hop, Op.operands]) _ hv⟩
  · rename_i c x y hop
    split at h
    · rename_i t u v h1 h2 h3
      cases h
      have e1 := (ht _ (by simp [hop, Op.operands]) _ h1).plain_eq rfl
      refine .inl ⟨rfl, _, rfl, fun w => ⟨if t then a.eval x else a.eval y, by cases t <;> simp [execOp, hop, e1, asBool], ?_⟩⟩
      cases t
      · exact ht _ (by simp [hop, Op.operands]) _ h3
      · exact ht _ (by simp [hop, Op.operands]) _ h2
    · cases h
  · rename_i e hop
    split at h
    · rename_i z hz
      cases hc : closed z
      · rw [hc] at h; cases h
      rw [hc] at h
      cases h
      exact .inr ⟨_, _, rfl, rfl, fun w => ⟨_, alloc_mk hT m H.n w hz hc, by simp [execOp, hop]⟩⟩
    · cases h
  · rename_i e x hop
    split at h
    · rename_i v hv
      cases h
      obtain ⟨i, hi⟩ := hi e x hop
      exact .inr ⟨_, _, rfl, rfl, fun w => ⟨_, box_mk H.n w hi (ht _ (by simp [hop, Op.operands]) _ hv), by simp [execOp, hop]⟩⟩
    · cases h
  · rename_i t ps hop
    split at h
    · rename_i l hl
      refine free_val h fun w v hv => ?_
      have hp := aevalp_sound (fun x hx => ht x (by simpa [hop, Op.operands] using hx)) hl
      obtain ⟨v', h1, h2⟩ := abuild_sound (w := w) hT hv hp
      refine ⟨v', ?_, h2⟩
      have : (ps.map fun x => (x.1, a.eval x.2)) = (ps.toList.map fun p => (p.1, a.eval p.2)).toArray := by apply Array.ext'; simp
      simp only [execOp, hop, this]
      simp [h1]
    · cases h
  · rename_i t n ps hop
    split at h
    · rename_i l hl
      have hp := aevalp_sound (fun x hx => ht x (by simpa [hop, Op.operands] using hx)) hl
      unfold val2 at h
      split at h
      · rename_i v H2 hb
        cases h
        have hex : ∃ ob, H' = H.push ob := by obtain ⟨ob, h1, _⟩ := abuildSlice_mk hT default hb hp; exact ⟨ob, h1⟩
        obtain ⟨ob, rfl⟩ := hex
        refine .inr ⟨ob, _, rfl, rfl, fun w => ⟨(Instr.buildSlice t n (ps.toList.map fun p => (p.1, a.eval p.2)).toArray).run P w, ?_, ?_⟩⟩
        · obtain ⟨ob', h1, h2⟩ := abuildSlice_mk hT w hb hp
          rw [Heap.push_inj h1]; exact h2
        · have : (ps.map fun x => (x.1, a.eval x.2)) = (ps.toList.map fun p => (p.1, a.eval p.2)).toArray := by apply Array.ext'; simp
          simp only [execOp, hop, this]
          simp
      · cases h
    · cases h
  · rename_i t x hop
    rw [hop] at hcls; cases hcls
  · rename_i t x y hop
    rw [hop] at hcls; cases hcls
  · rename_i x hop
    split at h
    · rename_i p hp
      cases h
      have hv := ht _ (by simp [hop, Op.operands]) _ hp
      refine .inl ⟨rfl, _, rfl, fun w => ⟨(a.eval x), ?_, hv⟩⟩
      generalize hax : a.eval x = ax at hv
      cases hv with
      | same hpp => simp [plain] at hpp
      | ptr hb => simp [execOp, hop, hax]
    · rename_i f g c hp
      cases h
      have hv := ht _ (by simp [hop, Op.operands]) _ hp
      refine .inl ⟨rfl, _, rfl, fun w => ⟨(a.eval x), ?_, hv⟩⟩
      generalize hax : a.eval x = ax at hv
      cases hv with
      | same hpp => simp [plain] at hpp
      | func => simp [execOp, hop, hax]
    · cases h
  · rename_i op t x y yt hop
    split at h
    · rename_i u v hu hv
      refine free_val h fun w z hz => ?_
      rcases orVal_cases hz with hz | hz
      · obtain ⟨h1, h2⟩ := abin_sound (w := w) hT hz (ht _ (by simp [hop, Op.operands]) _ hu) (ht _ (by simp [hop, Op.operands]) _ hv) x y
        refine ⟨z, ?_, .same h2⟩
        simp only [execOp, hop]
        simp only [Sem.run_bind] at h1 ⊢
        rw [h1]
        simp
      · obtain ⟨h1, h2⟩ := fallback_sound (P := P) (w := w) ht (by rw [hop]; simp) hz
        exact ⟨z, h1, VR.of_closed h2⟩
    · cases h
  · rename_i t x hop
    split at h
    · rename_i b hb
      cases h
      have e1 := (ht _ (by simp [hop, Op.operands]) _ hb).plain_eq rfl
      exact .inl ⟨rfl, _, rfl, fun w => ⟨(.bool !b), by simp [execOp, hop, e1, Op.unary], (.same rfl)⟩⟩
    · cases h
  · rename_i sr ds x hop
    split at h
    · rename_i v hv
      refine free_val h fun w z hz => ?_
      rcases orVal_cases hz with hz | hz
      · obtain ⟨h1, h2⟩ := aconvert_free hT (fun e he => by rw [hop] at hcls; simp [cls, he] at hcls) hz (ht _ (by simp [hop, Op.operands]) _ hv) (w := w)
        exact ⟨z, by simp [execOp, hop, h1], .same h2⟩
      · obtain ⟨h1, h2⟩ := fallback_sound (P := P) (w := w) ht (by rw [hop]; simp) hz
        exact ⟨z, h1, VR.of_closed h2⟩
    · cases h
  · rename_i fn fs cs hop
    split at h
    · rename_i l k hl hk
      cases h
      have h1 := aevals_sound (fun x hx => ht x (by simp [hop, Op.operands] at hx ⊢; exact .inl hx)) hl
      have h2 := aevals_sound (fun x hx => ht x (by simp [hop, Op.operands] at hx ⊢; exact .inr hx)) hk
      have g1 : VRs m l.toArray.toList (fs.map a.eval).toList := by simpa using h1
      have g2 : VRs m k.toArray.toList (cs.map a.eval).toList := by simpa using h2
      exact .inl ⟨rfl, _, rfl, fun w => ⟨(.func fn (fs.map a.eval) (cs.map a.eval)), by simp [execOp, hop, Instr.makeFunc], (.func g1.arr.1 g1.arr.2 g2.arr.1 g2.arr.2)⟩⟩
    · cases h
  · rename_i t x hop
    split at h
    · cases h
    · rename_i v d hnot hv hd
      cases h
      refine .inl ⟨rfl, _, rfl, fun w => ⟨(.iface t (a.eval x)), ?_, (.iface (ht _ (by simp [hop, Op.operands]) _ hv))⟩⟩
      have : (Instr.makeInterface t (a.eval x)).run P w = .ok (.iface t (a.eval x)) w := by
        unfold Instr.makeInterface
        rw [Sem.run_bind, run_under hT hd]
        cases d <;> first | rfl | exact absurd rfl (hnot _)
      simp [execOp, hop, this]
    · cases h
  · rename_i t l c hop
    split at h
    · rename_i u v hu hv
      unfold val2 at h
      split at h
      · rename_i x H2 hb
        cases h
        have hex : ∃ ob, H' = H.push ob := by obtain ⟨ob, h1, _⟩ := amakeSlice_mk hT default hb (ht _ (by simp [hop, Op.operands]) _ hu) (ht _ (by simp [hop, Op.operands]) _ hv); exact ⟨ob, h1⟩
        obtain ⟨ob, rfl⟩ := hex
        refine .inr ⟨ob, _, rfl, rfl, fun w => ⟨(Instr.makeSlice t (a.eval l) (a.eval c)).run P w, ?_, by simp [execOp, hop]⟩⟩
        obtain ⟨ob', h1, h2⟩ := amakeSlice_mk hT w hb (ht _ (by simp [hop, Op.operands]) _ hu) (ht _ (by simp [hop, Op.operands]) _ hv)
        rw [Heap.push_inj h1]; exact h2
      · cases h
    · cases h
  · rename_i t x lo hi mx hop
    split at h
    · rename_i v l hh mm hv hl hh' hm
      refine free_val h fun w z hz => ?_
      rcases orVal_cases hz with hz | hz
      · obtain ⟨v', h1, h2⟩ := aslice_sound (w := w) hT hz (ht _ (by simp [hop, Op.operands]) _ hv) (aevalo_sound (fun x hx => ht x (by simp [hop, Op.operands] at hx ⊢; simp [hx])) hl).1 (aevalo_sound (fun x hx => ht x (by simp [hop, Op.operands] at hx ⊢; simp [hx])) hl).2 (aevalo_sound (fun x hx => ht x (by simp [hop, Op.operands] at hx ⊢; simp [hx])) hh').1 (aevalo_sound (fun x hx => ht x (by simp [hop, Op.operands] at hx ⊢; simp [hx])) hh').2 (aevalo_sound (fun x hx => ht x (by simp [hop, Op.operands] at hx ⊢; simp [hx])) hm).2
        exact ⟨v', by simp [execOp, hop, h1], h2⟩
      · obtain ⟨h1, h2⟩ := fallback_sound (P := P) (w := w) ht (by rw [hop]; simp) hz
        exact ⟨z, h1, VR.of_closed h2⟩
    · cases h
  · rename_i s x f hop
    split at h
    · rename_i v hv
      refine free_val h fun w z hz => ?_
      obtain ⟨v', h1, h2⟩ := afield_sound (w := w) hT hz (ht _ (by simp [hop, Op.operands]) _ hv)
      exact ⟨v', by simp [execOp, hop, h1], h2⟩
    · cases h
  · rename_i t x f hop
    split at h
    · rename_i cs fields hx hd
      split at h
      · rename_i fd hf
        refine free_val h fun w z hz => ?_
        have hv := ht _ (by simp [hop, Op.operands]) _ hx
        generalize hax : a.eval x = ax at hv
        cases hv with
        | same hpp => simp [plain] at hpp
        | agg hs hk =>
          rename_i ys
          obtain ⟨v', h1, h2⟩ := apart_sound (w := w) hT hz (VRs.of_arr hs hk)
          exact ⟨v', by simp [execOp, hop, hax, Instr.field, run_under hT hd, hf, asAgg, h1], h2⟩
      · cases h
    · cases h
  · rename_i t x ix hop
    split at h
    · rename_i u v hu hv
      refine free_val h fun w z hz => ?_
      obtain ⟨v', h1, h2⟩ := aindexAddr_sound (w := w) hT hz (ht _ (by simp [hop, Op.operands]) _ hu) (ht _ (by simp [hop, Op.operands]) _ hv)
      exact ⟨v', by simp [execOp, hop, h1], h2⟩
    · cases h
  · rename_i t x ix hop
    split at h
    · rename_i u v hu hv
      refine free_val h fun w z hz => ?_
      rcases orVal_cases hz with hz | hz
      · obtain ⟨v', h1, h2⟩ := aindex_sound (w := w) hT hz (ht _ (by simp [hop, Op.operands]) _ hu) (ht _ (by simp [hop, Op.operands]) _ hv)
        exact ⟨v', by simp [execOp, hop, h1], h2⟩
      · obtain ⟨h1, h2⟩ := fallback_sound (P := P) (w := w) ht (by rw [hop]; simp) hz
        exact ⟨z, h1, VR.of_closed h2⟩
    · cases h
  · rename_i x i hop
    split at h
    · rename_i vs hx
      refine free_val h fun w z hz => ?_
      have hv := ht _ (by simp [hop, Op.operands]) _ hx
      generalize hax : a.eval x = ax at hv
      cases hv with
      | same hpp => simp [plain] at hpp
      | tuple hs hk =>
        rename_i ys
        obtain ⟨y, hy, hvy⟩ := (VRs.of_arr hs hk).2 i z (by simpa using hz)
        simp only [Array.getElem?_toList] at hy
        exact ⟨y, by simp [execOp, hop, hax, Instr.extract, hy], hvy⟩
    · cases h
  · rename_i c hop
    exact acall_free hT (by rw [← hop]; exact hcls) hop h ht
  · rename_i u t x hnn hop
    refine free_val h fun w z hz => ?_
    obtain ⟨h1, h2⟩ := fallback_sound (P := P) (w := w) ht (by rw [hop]; simp) hz
    exact ⟨z, h1, VR.of_closed h2⟩
  · rw [amap_act h] at hcls; cases hcls
end
end Go.Ev
