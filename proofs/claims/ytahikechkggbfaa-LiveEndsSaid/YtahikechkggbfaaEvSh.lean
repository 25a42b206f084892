/- Walks by hand: regions whose order is drawn: what stands between a read and an act that may change places leaves what is read as it was. -/
import Derived.Test.YtahikechkggbfaaEvSg
namespace Go.Ev
open Go
set_option linter.unusedVariables false
set_option linter.unusedSimpArgs false
/-- Does the k-th operation stand between a read and an act that may change places? -/
def calm (T : Tab) (ops : Array Oper) (k : Nat) : Bool := (loose T ops).any fun p => (Nat.min p.1 p.2).ble k && k.ble (Nat.max p.1 p.2)
def lkat (T : Tab) (ops : Array Oper) (k : Nat) : Bool := (loose T ops).any fun p => p.1.beq k
def AStepV (P : Program) (T : Tab) (lo n : Nat) (ops : Array Oper) (k : Nat) (o : Oper) (Q : St → Prop) (s : St) : Prop :=
  bif awanted ops s.tm o then
    match aop P T s.tm o s.H with
    | some (.val v, H) => (calm T ops k = true → Up lo s.H H) ∧ (cls T o.op = .look → lkat T ops k = true → LooksU T lo s.tm o s.H) ∧ APut n o.dst v s.tm H Q
    | some (.skip, H) => (calm T ops k = true → Up lo s.H H) ∧ APut n o.dst undef s.tm H Q
    | some (.enter f args, H) => (calm T ops k = true → Up lo s.H H) ∧ ACall P T f args H fun v H' => (calm T ops k = true → Up lo H H') ∧ APut n o.dst v s.tm H' Q
    | none => False
  else APut n o.dst undef s.tm s.H Q
def AOpsV (P : Program) (T : Tab) (lo n : Nat) (ops : Array Oper) : Nat → List Oper → (St → Prop) → St → Prop
  | _, [], Q, s => Q s
  | k, o :: l, Q, s => AStepV P T lo n ops k o (AOpsV P T lo n ops (k + 1) l Q) s
section
variable {P : Program} {T : Tab} {lo n : Nat} {ops : Array Oper} {s : St} {K : St → Prop} {Q : Xt → St → Prop}
theorem AStepV.spec {o : Oper} {i : Nat} {Q : St → Prop} (h : AStepV P T lo n ops i o Q s) : ∃ k s', step1 P T n (evCall P T k) ops o s = some s' ∧ (calm T ops i = true → Up lo s.H s'.H) ∧ Q s' ∧ (awanted ops s.tm o = true → cls T o.op = .look → lkat T ops i = true → LooksU T lo s.tm o s.H) := by
  unfold AStepV at h
  unfold step1
  cases hw : awanted ops s.tm o
  · rw [hw] at h
    obtain ⟨s', h1, h2⟩ := APut.spec h
    exact ⟨0, s', h1, fun _ => by rw [fin_H h1]; exact Up.refl _, h2, fun e => by cases e⟩
  · rw [hw] at h
    simp only [cond_true] at h ⊢
    split at h
    · rename_i v H ha
      obtain ⟨hu, h0, h⟩ := h
      obtain ⟨s', h1, h2⟩ := APut.spec h
      exact ⟨0, s', by simp only [ha, h1], by rw [fin_H h1]; exact hu, h2, fun _ => h0⟩
    · rename_i H ha
      obtain ⟨hu, h⟩ := h
      obtain ⟨s', h1, h2⟩ := APut.spec h
      refine ⟨0, s', by simp only [ha, h1], by rw [fin_H h1]; exact hu, h2, fun _ hlk _ => ?_⟩
      exfalso
      rcases look_op hlk with ⟨t, x, hop⟩ | ⟨sd, dd, x, hop⟩ <;>
        · unfold aop at ha
          simp only [hop] at ha
          split at ha
          · unfold val at ha; split at ha <;> cases ha
          · cases ha
    · rename_i f args H ha
      obtain ⟨hu, h⟩ := h
      unfold ACall at h
      obtain ⟨k, v, H', hc, hu2, h⟩ := h
      obtain ⟨s', h1, h2⟩ := APut.spec h
      refine ⟨k, s', by simp only [ha, hc, h1], fun hcm => by rw [fin_H h1]; exact (hu hcm).trans (hu2 hcm), h2, fun _ hlk _ => ?_⟩
      rw [enter_act ha] at hlk
      cases hlk
    · exact h.elim
theorem AOpsV.spec : ∀ (l : List Oper) (i : Nat) (Q : St → Prop) (s : St), AOpsV P T lo n ops i l Q s → ∃ k r s', evTrace P T n (evCall P T k) ops l s = some r ∧ r.getLast? = some s' ∧ Q s' ∧ r[0]? = some s ∧
    (∀ (k : Nat) (s1 s2 : St), r[k]? = some s1 → r[k + 1]? = some s2 → calm T ops (i + k) = true → Up lo s1.H s2.H) ∧
    (∀ (k : Nat) (o : Oper) (s1 : St), l[k]? = some o → r[k]? = some s1 → awanted ops s1.tm o = true → cls T o.op = .look → lkat T ops (i + k) = true → LooksU T lo s1.tm o s1.H) := by
  intro l
  induction l with
  | nil => intro i Q s h; exact ⟨0, [s], s, rfl, rfl, h, rfl, fun k s1 s2 h1 h2 => by simp at h2, fun k o s1 hk => by simp at hk⟩
  | cons o l ih =>
    intro i Q s h
    obtain ⟨k1, s1, h1, h2, h3, h4⟩ := AStepV.spec (show AStepV P T lo n ops i o (AOpsV P T lo n ops (i + 1) l Q) s from h)
    obtain ⟨k2, r, s', g1, g2, g3, g0, g4, g5⟩ := ih _ _ _ h3
    refine ⟨max k1 k2, s :: r, s', ?_, by rw [List.getLast?_cons, g2]; rfl, g3, rfl, fun k sa sb ha hb hcm => ?_, fun k o' s2 hk hs => ?_⟩
    · simp only [evTrace, step1_le (evCall_le (Nat.le_max_left k1 k2)) h1, evTrace_le (evCall_le (Nat.le_max_right k1 k2)) _ _ _ g1]
    · cases k with
      | zero =>
        have e1 : s = sa := by simpa using ha
        have e2 : r[0]? = some sb := by simpa using hb
        rw [g0] at e2
        cases e2
        subst e1
        exact h2 hcm
      | succ k => exact g4 k sa sb (by simpa using ha) (by simpa using hb) (by rw [show i + 1 + k = i + (k + 1) by omega]; exact hcm)
    · cases k with
      | zero =>
        simp at hk hs
        subst hk hs
        exact h4
      | succ k => intro hw hl hlk; exact g5 k o' s2 (by simpa using hk) (by simpa using hs) hw hl (by rw [show i + 1 + k = i + (k + 1) by omega]; exact hlk)
theorem up_span {r : List St} (i0 : Nat) (hr : ∀ (k : Nat) (s1 s2 : St), r[k]? = some s1 → r[k + 1]? = some s2 → calm T ops k = true → Up lo s1.H s2.H) : ∀ (d a : Nat) (s1 s2 : St), r[a]? = some s1 → r[a + d]? = some s2 → (∀ k, a ≤ k → k < a + d → calm T ops k = true) → Up lo s1.H s2.H := by
  intro d
  induction d with
  | zero => intro a s1 s2 h1 h2 _; rw [Nat.add_zero, h1] at h2; cases h2; exact Up.refl _
  | succ d ih =>
    intro a s1 s2 h1 h2 hc
    have hlt : a + d + 1 < r.length := (List.getElem?_eq_some_iff.1 (show r[a + d + 1]? = some s2 from h2)).1
    have h3 : r[a + d]? = some (r[a + d]'(by omega)) := List.getElem?_eq_getElem _
    exact (ih a s1 _ h1 h3 fun k h4 h5 => hc k h4 (by omega)).trans (hr (a + d) _ s2 h3 h2 (hc (a + d) (by omega) (by omega)))
theorem aw_drawV0 {id : Nat} {l : List Oper} (lo : Nat) (h : AOpsV P T lo n l.toArray 0 l (Q .normal) s) : Aw P T n (.region id l.toArray true) Q s := by
  obtain ⟨k, r, s', h1, h2, h3, h0, h4, h5⟩ := AOpsV.spec _ _ _ _ h
  simp only [Nat.zero_add] at h4 h5
  unfold Aw
  refine ⟨k + 1, .normal, s', ?_, h3⟩
  rw [evCode_region]
  obtain ⟨g1, g2, g3, s2, g4, g5⟩ := evTrace_spec _ _ _ h1
  rw [h2] at g4; cases g4
  have hst : (loose T l.toArray).all (steady T l.toArray r) = true := by
    rw [List.all_eq_true]
    intro p hp
    have hcalm : ∀ k, Nat.min p.1 p.2 ≤ k → k ≤ Nat.max p.1 p.2 → calm T l.toArray k = true := fun k ha hb => List.any_eq_true.2 ⟨p, hp, by rw [Bool.and_eq_true, ble_dec, ble_dec]; simp [ha, hb]⟩
    have hlk : lkat T l.toArray p.1 = true := List.any_eq_true.2 ⟨p, hp, Nat.beq_refl _⟩
    unfold steady
    obtain ⟨i, j⟩ := p
    have hij : i < l.length ∧ j < l.length ∧ cls T ((l[i]?).getD default).op = .look := by
      unfold loose at hp
      rw [List.mem_flatMap] at hp
      obtain ⟨i', hi', hp⟩ := hp
      obtain ⟨j', hj', hp⟩ := List.mem_filterMap.1 hp
      have : i = i' ∧ j = j' := by
        split at hp
        · revert hp; generalize i'.blt j' = b1; intro hp
          cases b1 <;> simp only [cond_false, cond_true] at hp
          · revert hp; generalize Nat.testBit _ _ = b2; intro hp; cases b2 <;> simp only [cond_false, cond_true] at hp <;> cases hp; exact ⟨rfl, rfl⟩
          · revert hp; generalize Nat.testBit _ _ = b2; intro hp; cases b2 <;> simp only [cond_false, cond_true] at hp <;> cases hp; exact ⟨rfl, rfl⟩
        · cases hp
      obtain ⟨rfl, rfl⟩ := this
      simp at hi' hj'
      refine ⟨hi', hj', ?_⟩
      split at hp
      · rename_i c1 c2
        rw [show l.toArray[i]? = some l[i] from by simp [hi']] at c1
        simp only [Option.map_some, Option.some.injEq] at c1
        rw [List.getElem?_eq_getElem hi']
        exact c1
      · cases hp
    simp only at hcalm hlk
    have e1 : r[i]? = some (r[i]'(by omega)) := List.getElem?_eq_getElem _
    have e2 : l.toArray[i]? = some (l[i]'hij.1) := by simp [hij.1]
    have e3 : r[j]? = some (r[j]'(by omega)) := List.getElem?_eq_getElem _
    have e4 : r[j + 1]? = some (r[j + 1]'(by omega)) := List.getElem?_eq_getElem _
    have hmin : Nat.min i j ≤ i ∧ Nat.min i j ≤ j := ⟨Nat.min_le_left _ _, Nat.min_le_right _ _⟩
    have hmax : i ≤ Nat.max i j ∧ j ≤ Nat.max i j := ⟨Nat.le_max_left _ _, Nat.le_max_right _ _⟩
    simp only [e1, e2, e3, e4]
    cases hw : awanted l.toArray (r[i]'(by omega)).tm (l[i]'hij.1)
    · rfl
    · simp only [cond_true]
      have hlook : cls T (l[i]'hij.1).op = .look := by
        have := hij.2.2
        rw [List.getElem?_eq_getElem hij.1] at this
        exact this
      obtain ⟨x, u, v, k1, k2, k3, k4, k5⟩ := h5 i (l[i]'hij.1) _ (by simp [hij.1]) e1 hw hlook hlk
      have m1 : ∀ b, b < lo → (r[j]'(by omega)).H.get b = (r[i]'(by omega)).H.get b := fun b hb => by
        rcases Nat.le_total i j with hle | hle
        · obtain ⟨d, hd⟩ : ∃ d, j = i + d := ⟨j - i, by omega⟩
          exact (up_span 0 h4 d i _ _ e1 (by rw [← hd]; exact e3) fun k ha hb => hcalm k (by omega) (by omega)).get b hb
        · obtain ⟨d, hd⟩ : ∃ d, i = j + d := ⟨i - j, by omega⟩
          exact ((up_span 0 h4 d j _ _ e3 (by rw [← hd]; exact e1) fun k ha hb => hcalm k (by omega) (by omega)).get b hb).symm
      have m2 : ∀ b, b < lo → (r[j + 1]'(by omega)).H.get b = (r[j]'(by omega)).H.get b := fun b hb => (h4 j _ _ e3 e4 (hcalm j (by omega) (by omega))).get b hb
      have same : ∀ H' : Heap, (∀ b, b < lo → H'.get b = (r[i]'(by omega)).H.get b) → alook T (l[i]'hij.1).op u H' = some v := by
        intro H' hu
        rcases alook_dep k3 with hi | ⟨b, hb, _, hc⟩
        · exact hi H'
        · rw [hc H' (r[i]'(by omega)).H (hu b (k5 b hb))]
          exact k3
      simp only [k1, k2, k3, same _ m1, same _ (fun b hb => (m2 b hb).trans (m1 b hb)), k4, Bool.and_self]
  simp only [evRegion, cond_true]
  cases hl : loose T l.toArray with
  | nil => simp only [g5]
  | cons p ps =>
    rw [hl] at hst
    simp only [h1, hst, cond_true, h2]
theorem cf_drawV {c : Cf} (lo : Nat) (h : atD c = true) (hk : AOpsV P T lo c.n (opsD c) 0 (opsD c).toList (fun s => Den P T ⟨c.n, .done .normal, c.K, s⟩ Q) c.s) : Den P T c Q := by
  obtain ⟨i, e⟩ := atD_spec h
  rw [e]
  unfold Den
  generalize opsD c = ops at hk
  obtain ⟨l⟩ := ops
  refine aw_drawV0 lo ?_
  unfold Den at hk
  exact hk
/-- Runs by itself: what reads or acts, where it may change places with another, is left. -/
def runV (P : Program) (T : Tab) (n : Nat) (ops : Array Oper) : Nat → List Oper → St → Option St
  | _, [], s => some s
  | k, o :: l, s =>
    bif awanted ops s.tm o then
      match aop P T s.tm o s.H with
      | some (.val v, H) => bif pureOp o.op || (!calm T ops k && !lkat T ops k) then (match fin n o.dst s.tm v H with | some s' => runV P T n ops (k + 1) l s' | none => none) else none
      | some (.skip, H) => bif !calm T ops k then (match fin n o.dst s.tm undef H with | some s' => runV P T n ops (k + 1) l s' | none => none) else none
      | some (.enter f args, H) => match T.orc f args.toList with
        | some v => bif !calm T ops k then (match fin n o.dst s.tm v H with | some s' => runV P T n ops (k + 1) l s' | none => none) else none
        | none => none
      | none => none
    else match fin n o.dst s.tm undef s.H with | some s' => runV P T n ops (k + 1) l s' | none => none
theorem aput_fin {dst : Option Tmp} {v : Value} {tm : Tr Value} {H : Heap} {s' : St} (h : fin n dst tm v H = some s') (hk : K s') : APut n dst v tm H K := by
  unfold fin at h
  split at h
  · rename_i tm' e; cases h; exact aput_k e hk
  · cases h
theorem runV_app : ∀ (l1 l2 : List Oper) (k : Nat) (s s1 : St), runV P T n ops k l1 s = some s1 → AOpsV P T lo n ops (k + l1.length) l2 K s1 → AOpsV P T lo n ops k (l1 ++ l2) K s := by
  intro l1
  induction l1 with
  | nil => intro l2 k s s1 h hk; cases h; exact hk
  | cons o l1 ih =>
    intro l2 k s s1 h hk
    have hk' : AOpsV P T lo n ops (k + 1 + l1.length) l2 K s1 := by rw [show k + 1 + l1.length = k + (o :: l1).length by simp; omega]; exact hk
    simp only [runV] at h
    show AStepV P T lo n ops k o _ s
    unfold AStepV
    cases hw : awanted ops s.tm o
    · rw [hw] at h
      simp only [cond_false] at h ⊢
      split at h
      · rename_i s2 h2
        exact aput_fin h2 (ih l2 (k + 1) s2 s1 h hk')
      · cases h
    · rw [hw] at h
      simp only [cond_true] at h ⊢
      split at h
      · rename_i v H ha
        cases hb : (pureOp o.op || (!calm T ops k && !lkat T ops k))
        · rw [hb] at h; cases h
        · rw [hb] at h
          simp only [cond_true] at h
          split at h
          · rename_i s2 h2
            try rw [ha]
            rcases (by simpa only [Bool.or_eq_true] using hb : pureOp o.op = true ∨ (!calm T ops k && !lkat T ops k) = true) with hp | hc
            · obtain ⟨e1, e2⟩ := pure_heap hp ha
              subst e1
              refine ⟨fun _ => Up.refl _, fun hlk _ => ?_, aput_fin h2 (ih l2 (k + 1) s2 s1 h hk')⟩
              exfalso
              rcases look_op hlk with ⟨t, x, e⟩ | ⟨sd, dd, x, e⟩ <;> (rw [e] at hp; cases hp)
            · simp only [Bool.and_eq_true, Bool.not_eq_true'] at hc
              exact ⟨fun h => (by rw [hc.1] at h; cases h), fun _ h => (by rw [hc.2] at h; cases h), aput_fin h2 (ih l2 (k + 1) s2 s1 h hk')⟩
          · cases h
      · rename_i H ha
        cases hb : (!calm T ops k)
        · rw [hb] at h; cases h
        · rw [hb] at h
          simp only [cond_true] at h
          split at h
          · rename_i s2 h2
            try rw [ha]
            simp only [Bool.not_eq_true'] at hb
            exact ⟨fun h => (by rw [hb] at h; cases h), aput_fin h2 (ih l2 (k + 1) s2 s1 h hk')⟩
          · cases h
      · rename_i f args H ha
        split at h
        · rename_i v ho
          cases hb : (!calm T ops k)
          · rw [hb] at h; cases h
          · rw [hb] at h
            simp only [cond_true] at h
            split at h
            · rename_i s2 h2
              try rw [ha]
              simp only [Bool.not_eq_true'] at hb
              exact ⟨fun h => (by rw [hb] at h; cases h), acall_orc ho ⟨fun h => (by rw [hb] at h; cases h), aput_fin h2 (ih l2 (k + 1) s2 s1 h hk')⟩⟩
            · cases h
        · cases h
      · cases h
theorem aopsV_go {l : List Oper} {k : Nat} (j : Nat) (hj : (l.take j).length.beq j = true) (h : (runV P T n ops k (l.take j) s).isSome = true) (hk : AOpsV P T lo n ops (k + j) (l.drop j) K (outS (runV P T n ops k (l.take j) s))) : AOpsV P T lo n ops k l K s := by
  have := runV_app (lo := lo) (K := K) (l.take j) (l.drop j) k s _ (some_outS h) (by rw [Nat.eq_of_beq_eq_true hj]; exact hk)
  rwa [List.take_append_drop] at this
theorem aopsV_see {l : List Oper} {k : Nat} (t : Nat) (v : Value) (h : s.tm.get t = some v) (hk : AOpsV P T lo n ops k l K ⟨s.tm.put t (some v), s.H⟩) : AOpsV P T lo n ops k l K s := by
  rw [st_see t v h]; exact hk
/-- At an operation that is wanted, and puts into a slot. -/
def okV (n : Nat) (ops : Array Oper) (s : St) (l : List Oper) (t : Nat) : Bool := !l.isEmpty && (awanted ops s.tm (hdO l) && (match (hdO l).dst with | some d => d.beq t && d.blt n | none => false))
theorem okV_spec {l : List Oper} {t : Nat} (h : okV n ops s l t = true) : l = hdO l :: l.tail ∧ awanted ops s.tm (hdO l) = true ∧ ∀ v, dput n s.tm (hdO l).dst v = some (s.tm.put t (some v)) := by
  unfold okV at h
  simp only [Bool.and_eq_true, Bool.not_eq_true'] at h
  obtain ⟨h1, h2, h3⟩ := h
  refine ⟨hdO_tail h1, h2, fun v => ?_⟩
  split at h3
  · rename_i d e
    simp only [Bool.and_eq_true] at h3
    rw [e, Nat.eq_of_beq_eq_true h3.1]
    unfold dput
    have := h3.2
    rw [Nat.eq_of_beq_eq_true h3.1] at this
    simp only [this, cond_true]
  · cases h3
/-- What leaves memory as it is, and does not read; or stands alone. -/
theorem aopsV_val {l : List Oper} {k : Nat} (t : Nat) (v : Value) (H0 H' : Heap) (ho : okV n ops s l t = true) (ha : aop P T s.tm (hdO l) s.H = some (.val v, H')) (hH : s.H = H0) (hq : calm T ops k = true → Up lo H0 H') (hl : (cls T (hdO l).op == .look && lkat T ops k) = false)
    (hk : AOpsV P T lo n ops (k + 1) l.tail K ⟨s.tm.put t (some v), H'⟩) : AOpsV P T lo n ops k l K s := by
  obtain ⟨h1, h2, h3⟩ := okV_spec ho
  subst hH
  rw [h1]
  show AStepV P T lo n ops k (hdO l) _ s
  unfold AStepV
  rw [h2, ha]
  refine ⟨hq, fun h4 h5 => ?_, aput_k (h3 v) hk⟩
  rw [h4, h5] at hl
  cases hl
/-- What reads. -/
theorem aopsV_get {l : List Oper} {k : Nat} (t : Nat) (v u : Value) (x : Operand) (H0 : Heap) (ho : okV n ops s l t = true) (hx : lookArg (hdO l).op = some x) (hu : aeval s.tm x = some u) (hH : s.H = H0) (hv : alook T (hdO l).op u H0 = some v) (hvv : veq v v = true) (hlow : LowB lo u)
    (ha : aop P T s.tm (hdO l) s.H = some (.val v, s.H)) (hk : AOpsV P T lo n ops (k + 1) l.tail K ⟨s.tm.put t (some v), s.H⟩) : AOpsV P T lo n ops k l K s := by
  obtain ⟨h1, h2, h3⟩ := okV_spec ho
  rw [h1]
  show AStepV P T lo n ops k (hdO l) _ s
  unfold AStepV
  rw [h2, ha]
  exact ⟨fun _ => Up.refl _, fun _ _ => ⟨x, u, v, hx, hu, by rw [hH]; exact hv, hvv, hlow⟩, aput_k (h3 v) hk⟩
theorem aopsV_skip {l : List Oper} {k : Nat} (H0 H' : Heap) (he : l.isEmpty = false) (hw : awanted ops s.tm (hdO l) = true) (hd : (hdO l).dst = none) (ha : aop P T s.tm (hdO l) s.H = some (.skip, H')) (hH : s.H = H0) (hq : calm T ops k = true → Up lo H0 H')
    (hk : AOpsV P T lo n ops (k + 1) l.tail K ⟨s.tm, H'⟩) : AOpsV P T lo n ops k l K s := by
  subst hH
  rw [hdO_tail he]
  show AStepV P T lo n ops k (hdO l) _ s
  unfold AStepV
  rw [hw, ha]
  exact ⟨hq, aput_k (by rw [hd]; rfl) hk⟩
theorem aopsV_ask {l : List Oper} {k : Nat} (t : Nat) (v : Value) (f : FuncId) (args : Array Value) (ho : okV n ops s l t = true) (ha : aop P T s.tm (hdO l) s.H = some (.enter f args, s.H)) (hv : T.orc f args.toList = some v) (hk : AOpsV P T lo n ops (k + 1) l.tail K ⟨s.tm.put t (some v), s.H⟩) : AOpsV P T lo n ops k l K s := by
  obtain ⟨h1, h2, h3⟩ := okV_spec ho
  rw [h1]
  show AStepV P T lo n ops k (hdO l) _ s
  unfold AStepV
  rw [h2, ha]
  exact ⟨fun _ => Up.refl _, acall_orc hv ⟨fun _ => Up.refl _, aput_k (h3 v) hk⟩⟩
theorem aopsV_call {l : List Oper} {k : Nat} (t : Nat) (f : FuncId) (args : Array Value) (H0 : Heap) {R : Value → Heap → Prop} (ho : okV n ops s l t = true) (ha : aop P T s.tm (hdO l) s.H = some (.enter f args, s.H)) (hH : s.H = H0) (hc : ACall P T f args H0 R) (hq : calm T ops k = true → ∀ v H', R v H' → Up lo H0 H')
    (hk : ∀ v H', R v H' → AOpsV P T lo n ops (k + 1) l.tail K ⟨s.tm.put t (some v), H'⟩) : AOpsV P T lo n ops k l K s := by
  obtain ⟨h1, h2, h3⟩ := okV_spec ho
  rw [h1]
  show AStepV P T lo n ops k (hdO l) _ s
  unfold AStepV
  rw [h2, ha]
  subst hH
  exact ⟨fun _ => Up.refl _, hc.mono fun v H' h => ⟨fun hcm => hq hcm v H' h, aput_k (h3 v) (hk v H' h)⟩⟩
theorem aopsV_end {l : List Oper} {k : Nat} (he : l.isEmpty = true) (hk : K s) : AOpsV P T lo n ops k l K s := by
  cases l with
  | nil => exact hk
  | cons o l => cases he
theorem aopsV_cons {o : Oper} {l : List Oper} {k : Nat} (h : AStepV P T lo n ops k o (AOpsV P T lo n ops (k + 1) l K) s) : AOpsV P T lo n ops k (o :: l) K s := h
theorem calm_no {T : Tab} {ops : Array Oper} {k : Nat} {p : Prop} (h : calm T ops k = false) : calm T ops k = true → p := fun h' => by rw [h] at h'; cases h'
end
attribute [irreducible] AOpsV
end Go.Ev
