/- Walks by hand, in great steps: what stands still is run by the kernel, with names for what is not known. -/
import Derived.Test.YtahikechkggbfaaEvV
namespace Go.Ev
open Go
set_option linter.unusedVariables false
set_option linter.unusedSimpArgs false
/-- Slots that are known, ahead of those that are not. -/
def ov (l : List (Nat × Value)) (d : Nat → Value) (i : Nat) : Value := match l with
  | [] => d i
  | (j, v) :: r => bif i.beq j then v else ov r d i
def tmN (n : Nat) (f : Nat → Value) : Tr Value := initTm.go ((List.range n).map f) 0 .lf
def dOf (o : Option St) (i : Nat) : Value := match o with | some s => (s.tm.get i).getD undef | none => undef
def dTm (o : Option (Tr Value)) (i : Nat) : Value := match o with | some tm => (tm.get i).getD undef | none => undef
section
variable {P : Program} {T : Tab} {n : Nat} {ops : Array Oper} {K : St → Prop} {Q : Xt → St → Prop} {s s1 : St}
def hdO (l : List Oper) : Oper := match l with | o :: _ => o | [] => default
theorem hdO_tail {l : List Oper} (h : l.isEmpty = false) : l = hdO l :: l.tail := by
  cases l with
  | nil => cases h
  | cons o l => rfl
theorem aput_of_fin {dst : Option Tmp} {v : Value} {tm : Tr Value} {H : Heap} (h : fin n dst tm v H = some s1) (hk : K s1) : APut n dst v tm H K := by
  unfold fin at h
  split at h
  · rename_i tm' htm; cases h; exact aput_k htm hk
  · cases h
theorem astep_of {k : Nat} {o : Oper} (h : step1 P T n (evCall P T k) ops o s = some s1) (hk : K s1) : AStep P T n ops o K s := by
  unfold step1 at h
  unfold AStep
  cases hw : awanted ops s.tm o
  · rw [hw] at h; exact aput_of_fin h hk
  · rw [hw] at h
    simp only [cond_true] at h ⊢
    split at h
    · rename_i ha; rw [ha]; exact aput_of_fin h hk
    · rename_i ha; rw [ha]; exact aput_of_fin h hk
    · rename_i f args H1 ha
      rw [ha]
      split at h
      · rename_i v H2 hc
        unfold ACall
        exact ⟨k, v, H2, hc, aput_of_fin h hk⟩
      · cases h
    · cases h
theorem aops_app {k : Nat} : ∀ (l1 l2 : List Oper) (s s1 : St), evOps P T n (evCall P T k) ops l1 s = some s1 → AOps P T n ops l2 K s1 → AOps P T n ops (l1 ++ l2) K s := by
  intro l1
  induction l1 with
  | nil => intro l2 s s1 h hk; cases h; exact hk
  | cons o l1 ih =>
    intro l2 s s1 h hk
    simp only [evOps] at h
    split at h
    · rename_i s2 h2
      exact aops_cons (astep_of h2 (ih l2 s2 s1 h hk))
    · cases h
theorem aops_run {l : List Oper} (j : Nat) (k : Nat) (h : evOps P T n (evCall P T k) ops (l.take j) s = some s1) (hk : AOps P T n ops (l.drop j) K s1) : AOps P T n ops l K s := by
  have := aops_app (l.take j) (l.drop j) s s1 h hk
  rwa [List.take_append_drop] at this
theorem aops_one {l : List Oper} {v : Value} {H' : Heap} {tm' : Tr Value} (he : l.isEmpty = false) (hw : awanted ops s.tm (hdO l) = true) (ha : aop P T s.tm (hdO l) s.H = some (.val v, H')) (hd : dput n s.tm (hdO l).dst v = some tm')
    (hk : AOps P T n ops l.tail K ⟨tm', H'⟩) : AOps P T n ops l K s := by
  rw [hdO_tail he]
  exact aops_res hw ha (ares_val hd hk)
theorem aops_ent {l : List Oper} {f : FuncId} {args : Array Value} {H1 : Heap} (he : l.isEmpty = false) (hw : awanted ops s.tm (hdO l) = true) (ha : aop P T s.tm (hdO l) s.H = some (.enter f args, H1))
    (hc : ACall P T f args H1 fun v H' => ∃ tm', dput n s.tm (hdO l).dst v = some tm' ∧ AOps P T n ops l.tail K ⟨tm', H'⟩) : AOps P T n ops l K s := by
  rw [hdO_tail he]
  exact aops_res hw ha (ares_call (hc.mono fun v H' ⟨tm', h1, h2⟩ => aput_k h1 h2))
theorem aops_end {l : List Oper} (he : l.isEmpty = true) (hk : K s) : AOps P T n ops l K s := by
  cases l with
  | nil => exact aops_nil hk
  | cons o l => cases he
/-! Regions whose order is drawn, and that leave memory as it is -/
/-- Operations that neither read memory nor make any. -/
def pureOp : Op → Bool
  | .move _ | .assign _ | .pick .. | .binOp .. | .unOp .. | .fieldAddr .. | .field .. | .indexAddr .. | .extract .. | .slice .. => true
  | .call c => match c.callee with | .builtin .len => true | _ => false
  | _ => false
def runC (P : Program) (T : Tab) (n : Nat) (ops : Array Oper) : List Oper → St → Option St
  | [], s => some s
  | o :: l, s => bif awanted ops s.tm o then
      (bif pureOp o.op then match aop P T s.tm o s.H with
        | some (.val v, _) => match fin n o.dst s.tm v s.H with
          | some s' => runC P T n ops l s'
          | none => none
        | _ => none
      else none)
    else match fin n o.dst s.tm undef s.H with
      | some s' => runC P T n ops l s'
      | none => none
theorem pure_heap {o : Oper} {v : Value} {H' : Heap} (hp : pureOp o.op = true) (h : aop P T s.tm o s.H = some (.val v, H')) : H' = s.H ∧ isLoad o.op = false := by
  refine ⟨?_, by generalize o.op = op at hp; cases op <;> first | rfl | cases hp⟩
  unfold aop at h
  generalize hop : o.op = op at h hp
  cases op <;> simp only at h <;> first
    | (cases hp; done)
    | exact val_H h
    | (split at h <;> first | exact val_H h | (cases h; rfl) | (cases h; done); done)
    | skip
  case field t x f =>
    split at h
    · split at h
      · exact val_H h
      · cases h
    · cases h
  case unOp u t x =>
    cases u <;> simp only at h <;> first
      | exact val_H h
      | (split at h <;> first | exact val_H h | (cases h; rfl) | (cases h; done))
  case call c =>
    unfold acall at h
    simp only [pureOp] at hp
    generalize hcal : c.callee = cal at h hp
    cases cal with
    | value f => cases hp
    | invoke r m => cases hp
    | builtin b =>
      cases b <;> simp only at hp h <;> first
        | (cases hp; done)
        | (split at h <;> first | exact val_H h | (rename_i e _ _; cases e; done) | (rename_i e _; cases e; done) | (cases h; rfl) | (cases h; done) | (split at h <;> first | exact val_H h | (cases h; rfl) | (cases h; done)))
theorem runC_app : ∀ (l1 l2 : List Oper) (s s1 : St), runC P T n ops l1 s = some s1 → AOpsC P T n ops l2 K s1 → AOpsC P T n ops (l1 ++ l2) K s := by
  intro l1
  induction l1 with
  | nil => intro l2 s s1 h hk; cases h; exact hk
  | cons o l1 ih =>
    intro l2 s s1 h hk
    simp only [runC] at h
    refine aopsC_cons ?_
    unfold AStepC
    cases hw : awanted ops s.tm o
    · rw [hw] at h
      simp only [cond_false] at h ⊢
      split at h
      · rename_i s2 h2
        exact aput_of_fin h2 (ih l2 s2 s1 h hk)
      · cases h
    · rw [hw] at h
      simp only [cond_true] at h ⊢
      cases hp : pureOp o.op
      · rw [hp] at h; cases h
      · rw [hp] at h
        simp only [cond_true] at h
        split at h
        · rename_i v H1 ha
          obtain ⟨e1, e2⟩ := pure_heap hp ha
          split at h
          · rename_i s2 h2
            rw [ha]
            exact ⟨e1, ⟨(fun e => by rw [e2] at e; cases e), (fun e => by generalize o.op = op at hp e; cases op <;> first | (cases e; done) | (cases hp; done))⟩, aput_of_fin h2 (ih l2 s2 s1 h hk)⟩
          · cases h
        · cases h
theorem aopsC_run {l : List Oper} (j : Nat) (h : runC P T n ops (l.take j) s = some s1) (hk : AOpsC P T n ops (l.drop j) K s1) : AOpsC P T n ops l K s := by
  have := runC_app (l.take j) (l.drop j) s s1 h hk
  rwa [List.take_append_drop] at this
theorem aopsC_one {l : List Oper} {v : Value} {tm' : Tr Value} (he : l.isEmpty = false) (hw : awanted ops s.tm (hdO l) = true) (ha : aop P T s.tm (hdO l) s.H = some (.val v, s.H)) (hv : veq v v = true) (hd : dput n s.tm (hdO l).dst v = some tm')
    (hk : AOpsC P T n ops l.tail K ⟨tm', s.H⟩) (hc : isConv (hdO l).op = false := by kernel_rfl) : AOpsC P T n ops l K s := by
  rw [hdO_tail he]
  exact aopsC_val hw ha (.inr hv) hd hk hc
theorem aopsC_ent {l : List Oper} {v : Value} {tm' : Tr Value} {f : FuncId} {args : Array Value} (he : l.isEmpty = false) (hw : awanted ops s.tm (hdO l) = true) (ha : aop P T s.tm (hdO l) s.H = some (.enter f args, s.H)) (ho : T.orc f args.toList = some v)
    (hd : dput n s.tm (hdO l).dst v = some tm') (hk : AOpsC P T n ops l.tail K ⟨tm', s.H⟩) : AOpsC P T n ops l K s := by
  rw [hdO_tail he]
  exact aopsC_call hw ha ho hd hk
theorem aopsC_end {l : List Oper} (he : l.isEmpty = true) (hk : K s) : AOpsC P T n ops l K s := by
  cases l with
  | nil => exact aopsC_nil hk
  | cons o l => cases he
theorem aw_reg {id : Nat} (h : AOps P T n ops ops.toList (Q .normal) s) : Aw P T n (.region id ops false) Q s := aw_region h
theorem aw_drawC {id : Nat} (h : AOpsC P T n ops ops.toList (Q .normal) s) : Aw P T n (.region id ops true) Q s := by
  obtain ⟨l⟩ := ops
  exact aw_drawC_k fun K hK => by
    have : ∀ (l1 : List Oper) (s : St), AOpsC P T n l.toArray l1 (Q .normal) s → AOpsC P T n l.toArray l1 K s := by
      intro l1
      induction l1 with
      | nil => intro s h; exact aopsC_nil (hK _ (by with_unfolding_all exact h))
      | cons o l1 ih =>
        intro s h
        have h : AStepC P T n l.toArray o (AOpsC P T n l.toArray l1 (Q .normal)) s := by with_unfolding_all exact h
        refine aopsC_cons ?_
        unfold AStepC at h ⊢
        have ap : ∀ {dst : Option Tmp} {v : Value} {tm : Tr Value} {H : Heap}, APut n dst v tm H (AOpsC P T n l.toArray l1 (Q .normal)) → APut n dst v tm H (AOpsC P T n l.toArray l1 K) := by
          intro dst v tm H h
          unfold APut at h ⊢
          split at h
          · exact ih _ h
          · exact h.elim
        cases hw : awanted l.toArray s.tm o
        · rw [hw] at h; exact ap h
        · rw [hw] at h
          simp only [cond_true] at h ⊢
          split at h
          · exact ⟨h.1, h.2.1, ap h.2.2⟩
          · refine ⟨h.1, ?_⟩
            have h2 := h.2
            split at h2
            · exact ap h2
            · exact h2.elim
          · exact h.elim
    exact this l s h
/-! With the slots that are known, and the others under a name -/
theorem aops_ck {l : List Oper} (j k : Nat) (L' : List (Nat × Value)) (H' : Heap) (h : evOps P T n (evCall P T k) ops (l.take j) s = some ⟨tmN n (ov L' (dOf (evOps P T n (evCall P T k) ops (l.take j) s))), H'⟩)
    (hq : ∀ d', AOps P T n ops (l.drop j) K ⟨tmN n (ov L' d'), H'⟩) : AOps P T n ops l K s := aops_run j k h (hq _)
theorem aopsC_ck {l : List Oper} (j : Nat) (L' : List (Nat × Value)) (H' : Heap) (h : runC P T n ops (l.take j) s = some ⟨tmN n (ov L' (dOf (runC P T n ops (l.take j) s))), H'⟩)
    (hq : ∀ d', AOpsC P T n ops (l.drop j) K ⟨tmN n (ov L' d'), H'⟩) : AOpsC P T n ops l K s := aopsC_run j h (hq _)
section
variable {L : List (Nat × Value)} {d : Nat → Value} {H : Heap}
theorem aops_st {l : List Oper} (t : Nat) (v : Value) (H' : Heap) (he : l.isEmpty = false) (hw : awanted ops (tmN n (ov L d)) (hdO l) = true) (hd : dput n (tmN n (ov L d)) (hdO l).dst v = some (tmN n (ov ((t, v) :: L) d)))
    (ha : aop P T (tmN n (ov L d)) (hdO l) H = some (.val v, H')) (hk : AOps P T n ops l.tail K ⟨tmN n (ov ((t, v) :: L) d), H'⟩) : AOps P T n ops l K ⟨tmN n (ov L d), H⟩ := aops_one he hw ha hd hk
theorem aops_orc {l : List Oper} (t : Nat) (v : Value) (f : FuncId) (args : Array Value) (he : l.isEmpty = false) (hw : awanted ops (tmN n (ov L d)) (hdO l) = true) (hd : dput n (tmN n (ov L d)) (hdO l).dst v = some (tmN n (ov ((t, v) :: L) d)))
    (ha : aop P T (tmN n (ov L d)) (hdO l) H = some (.enter f args, H)) (ho : T.orc f args.toList = some v) (hk : AOps P T n ops l.tail K ⟨tmN n (ov ((t, v) :: L) d), H⟩) : AOps P T n ops l K ⟨tmN n (ov L d), H⟩ :=
  aops_ent he hw ha (acall_orc ho ⟨_, hd, hk⟩)
theorem aops_fn {l : List Oper} (t : Nat) (f : FuncId) (args : Array Value) {R : Value → Heap → Prop} (he : l.isEmpty = false) (hw : awanted ops (tmN n (ov L d)) (hdO l) = true) (hd : ∀ v, dput n (tmN n (ov L d)) (hdO l).dst v = some (tmN n (ov ((t, v) :: L) d)))
    (ha : aop P T (tmN n (ov L d)) (hdO l) H = some (.enter f args, H)) (hc : ACall P T f args H R) (hk : ∀ v H', R v H' → AOps P T n ops l.tail K ⟨tmN n (ov ((t, v) :: L) d), H'⟩) : AOps P T n ops l K ⟨tmN n (ov L d), H⟩ :=
  aops_ent he hw ha (hc.mono fun v H' h => ⟨_, hd v, hk v H' h⟩)
theorem aopsC_st {l : List Oper} (t : Nat) (v : Value) (he : l.isEmpty = false) (hw : awanted ops (tmN n (ov L d)) (hdO l) = true) (hd : dput n (tmN n (ov L d)) (hdO l).dst v = some (tmN n (ov ((t, v) :: L) d)))
    (hv : veq v v = true) (ha : aop P T (tmN n (ov L d)) (hdO l) H = some (.val v, H)) (hk : AOpsC P T n ops l.tail K ⟨tmN n (ov ((t, v) :: L) d), H⟩) (hc : isConv (hdO l).op = false := by kernel_rfl) : AOpsC P T n ops l K ⟨tmN n (ov L d), H⟩ := aopsC_one he hw ha hv hd hk hc
theorem aopsC_orc {l : List Oper} (t : Nat) (v : Value) (f : FuncId) (args : Array Value) (he : l.isEmpty = false) (hw : awanted ops (tmN n (ov L d)) (hdO l) = true) (hd : dput n (tmN n (ov L d)) (hdO l).dst v = some (tmN n (ov ((t, v) :: L) d)))
    (ha : aop P T (tmN n (ov L d)) (hdO l) H = some (.enter f args, H)) (ho : T.orc f args.toList = some v) (hk : AOpsC P T n ops l.tail K ⟨tmN n (ov ((t, v) :: L) d), H⟩) : AOpsC P T n ops l K ⟨tmN n (ov L d), H⟩ := aopsC_ent he hw ha ho hd hk
end
theorem aw_then {a b : Code} (h : Aw P T n a (Xt.then (Aw P T n b Q) Q) s) : Aw P T n (.seq a b) Q s := aw_seq h
theorem then_n {Kk : St → Prop} (h : Kk s) : Xt.then Kk Q .normal s := then_normal h
theorem val_of {v : Value} {H : Heap} {r : Option Value} (h : r = some v) : val r H = some (.val v, H) := by rw [h]; rfl
/-- A piece of code that ends as it should, run at once. -/
theorem aw_run {c : Code} {k : Nat} {x : Xt} (h : evCode P T k n c s = some (x, s1)) (hq : Q x s1) : Aw P T n c Q s := by
  unfold Aw
  exact ⟨k, x, s1, h, hq⟩
end
end Go.Ev
