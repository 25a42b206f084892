/- Walks by hand, in great steps: regions whose order is drawn and that write memory. -/
import Derived.Test.YtahikechkggbfaaEvSb
namespace Go.Ev
open Go
set_option linter.unusedVariables false
set_option linter.unusedSimpArgs false
section
variable {P : Program} {T : Tab} {n : Nat} {ops : Array Oper} {Q : Xt → St → Prop} {s : St} {R : List St → St → Prop}
def outT (o : Option (List St)) : List St := match o with | some l => l | none => []
theorem atr_app {k : Nat} : ∀ (l1 l2 : List Oper) (acc r : List St) (s s1 : St), evTrace P T n (evCall P T k) ops l1 s = some (r ++ [s1]) → ATr P T n ops l2 (acc ++ r) R s1 → ATr P T n ops (l1 ++ l2) acc R s := by
  intro l1
  induction l1 with
  | nil =>
    intro l2 acc r s s1 h hk
    simp only [evTrace, Option.some.injEq] at h
    cases r with
    | nil => simp at h; subst h; simpa using hk
    | cons a r => exfalso; have := congrArg List.length h; simp at this
  | cons o l1 ih =>
    intro l2 acc r s s1 h hk
    simp only [evTrace] at h
    split at h
    · rename_i s2 h2
      split at h
      · rename_i r2 h3
        injection h with h
        cases r with
        | nil =>
          exfalso
          simp at h
          obtain ⟨_, h4⟩ := h
          subst h4
          cases l1 with
          | nil => simp [evTrace] at h3
          | cons o2 l3 => simp only [evTrace] at h3; split at h3 <;> first | (split at h3 <;> cases h3) | cases h3
        | cons a r =>
          simp at h
          obtain ⟨rfl, rfl⟩ := h
          refine astep_of h2 ?_
          have := ih l2 (acc ++ [s]) r s2 s1 h3 (by simpa using hk)
          exact this
      · cases h
    · cases h
theorem atr_go {l : List Oper} {acc : List St} (j k : Nat) (r : List St) (s1 : St) (h : evTrace P T n (evCall P T k) ops (l.take j) s = some (r ++ [s1])) (hk : ATr P T n ops (l.drop j) (acc ++ r) R s1) : ATr P T n ops l acc R s := by
  have := atr_app (l.take j) (l.drop j) acc r s s1 h hk
  rwa [List.take_append_drop] at this
theorem atr_val {l : List Oper} {acc : List St} (t : Nat) (v : Value) (H' : Heap) (he : l.isEmpty = false) (hw : awanted ops s.tm (hdO l) = true) (hd : dput n s.tm (hdO l).dst v = some (s.tm.put t (some v)))
    (ha : aop P T s.tm (hdO l) s.H = some (.val v, H')) (hk : ATr P T n ops l.tail (acc ++ [s]) R ⟨s.tm.put t (some v), H'⟩) : ATr P T n ops l acc R s := by
  rw [hdO_tail he]
  show AStep P T n ops (hdO l) _ s
  unfold AStep
  rw [hw, ha]
  exact aput_k hd hk
theorem atr_see {l : List Oper} {acc : List St} (t : Nat) (v : Value) (h : s.tm.get t = some v) (hk : ATr P T n ops l acc R ⟨s.tm.put t (some v), s.H⟩) : ATr P T n ops l acc R s := by
  rw [st_see t v h]; exact hk
theorem atr_skip {l : List Oper} {acc : List St} (H' : Heap) (he : l.isEmpty = false) (hw : awanted ops s.tm (hdO l) = true) (hd : (hdO l).dst = none)
    (ha : aop P T s.tm (hdO l) s.H = some (.skip, H')) (hk : ATr P T n ops l.tail (acc ++ [s]) R ⟨s.tm, H'⟩) : ATr P T n ops l acc R s := by
  rw [hdO_tail he]
  show AStep P T n ops (hdO l) _ s
  unfold AStep
  rw [hw, ha, hd]
  exact aput_k rfl hk
theorem atr_end {l : List Oper} {acc : List St} (he : l.isEmpty = true) (hk : R (acc ++ [s]) s) : ATr P T n ops l acc R s := by
  cases l with
  | nil => exact hk
  | cons o l => cases he
theorem aops_skip {l : List Oper} {K : St → Prop} (H' : Heap) (he : l.isEmpty = false) (hw : awanted ops s.tm (hdO l) = true) (hd : (hdO l).dst = none)
    (ha : aop P T s.tm (hdO l) s.H = some (.skip, H')) (hk : AOps P T n ops l.tail K ⟨s.tm, H'⟩) : AOps P T n ops l K s := by
  rw [hdO_tail he]
  refine aops_res hw ha (ares_skip ?_ hk)
  rw [hd]; rfl
theorem aw_drawW {id : Nat} (h : ATr P T n ops ops.toList [] (fun r s' => (loose T ops).all (steady T ops r) = true ∧ Q .normal s') s) : Aw P T n (.region id ops true) Q s := by
  obtain ⟨l⟩ := ops
  exact aw_draw h
theorem steady_of {l : List St} {i j : Nat} {s0 s1 s2 : St} {o : Oper} {t : TypeId} {a : Operand} {v u : Value} (hs : l[i]? = some s0) (ho : ops[i]? = some o) (hop : o.op = .load t a) (hw : awanted ops s0.tm o = true) (hv : aeval s0.tm a = some v)
    (h0 : aload T t v s0.H = some u) (hs1 : l[j]? = some s1) (hs2 : l[j + 1]? = some s2) (h1 : aload T t v s1.H = some u) (h2 : aload T t v s2.H = some u) (hu : veq u u = true) : steady T ops l (i, j) = true := by
  unfold steady
  simp only [hs, ho, hw, cond_true, hop, lookArg, alook, hv, h0, hs1, hs2, h1, h2, hu, Bool.and_self]
theorem steady_off {l : List St} {i j : Nat} {s0 : St} {o : Oper} (hs : l[i]? = some s0) (ho : ops[i]? = some o) (hw : awanted ops s0.tm o = false) : steady T ops l (i, j) = true := by
  unfold steady
  simp only [hs, ho, hw, cond_false]
end
theorem veq_int (k : IntKind) (x : Int) : veq (.int k x) (.int k x) = true := by simp [veq, veq0]
theorem veq_slice (a : Option Addr) (l c : Nat) : veq (.slice a l c) (.slice a l c) = true := by cases a <;> simp [veq, veq0]
end Go.Ev
