/- Walks by hand: regions whose order is drawn, in which memory grows above a line, and what lies below it is read. -/
import Derived.Test.YtahikechkggbfaaEvSe
namespace Go.Ev
open Go
set_option linter.unusedVariables false
set_option linter.unusedSimpArgs false
def LowB (lo : Nat) (u : Value) : Prop := ∀ b, readsB u b → b < lo
theorem lowB_ptr {lo b off : Nat} (h : b < lo) : LowB lo (.pointer (some ⟨b, off, none⟩)) := fun x hx => by
  rcases hx with ⟨o, e⟩ | ⟨o, n, c, e⟩
  · injection e with e; injection e with e; injection e with e1 e2; omega
  · cases e
theorem lowB_slice {lo b off n c : Nat} (h : b < lo) : LowB lo (.slice (some ⟨b, off, none⟩) n c) := fun x hx => by
  rcases hx with ⟨o, e⟩ | ⟨o, n', c', e⟩
  · cases e
  · injection e with e _ _; injection e with e; injection e with e1 e2; omega
theorem lowB_nil {lo n c : Nat} : LowB lo (.slice none n c) := fun x hx => by
  rcases hx with ⟨o, e⟩ | ⟨o, n', c', e⟩ <;> cases e
def LooksU (T : Tab) (lo : Nat) (tm : Tr Value) (o : Oper) (H : Heap) : Prop := ∃ x u v, lookArg o.op = some x ∧ aeval tm x = some u ∧ alook T o.op u H = some v ∧ veq v v = true ∧ LowB lo u
/-- Is a look bound in order to all acts? -/
def nl (T : Tab) (ops : Array Oper) (o : Oper) : Bool := (loose T ops).all fun p => match ops[p.1]? with | some q => !(q.dst == o.dst) | none => true
def AStepU (P : Program) (T : Tab) (lo n : Nat) (ops : Array Oper) (o : Oper) (Q : St → Prop) (s : St) : Prop :=
  bif awanted ops s.tm o then
    match aop P T s.tm o s.H with
    | some (.val v, H) => Up lo s.H H ∧ (cls T o.op = .look → nl T ops o = false → LooksU T lo s.tm o s.H) ∧ APut n o.dst v s.tm H Q
    | some (.skip, H) => Up lo s.H H ∧ APut n o.dst undef s.tm H Q
    | some (.enter f args, H) => Up lo s.H H ∧ ACall P T f args H fun v H' => Up lo H H' ∧ APut n o.dst v s.tm H' Q
    | none => False
  else APut n o.dst undef s.tm s.H Q
def AOpsU (P : Program) (T : Tab) (lo n : Nat) (ops : Array Oper) : List Oper → (St → Prop) → St → Prop
  | [], Q, s => Q s
  | o :: l, Q, s => AStepU P T lo n ops o (AOpsU P T lo n ops l Q) s
section
variable {P : Program} {T : Tab} {lo n : Nat} {ops : Array Oper} {s : St} {K : St → Prop} {Q : Xt → St → Prop}
theorem fin_H {dst : Option Tmp} {v : Value} {tm : Tr Value} {H : Heap} {s' : St} (h : fin n dst tm v H = some s') : s'.H = H := by
  unfold fin at h; split at h <;> cases h; rfl
theorem AStepU.spec {o : Oper} {Q : St → Prop} (h : AStepU P T lo n ops o Q s) : ∃ k s', step1 P T n (evCall P T k) ops o s = some s' ∧ Up lo s.H s'.H ∧ Q s' ∧ (awanted ops s.tm o = true → cls T o.op = .look → nl T ops o = false → LooksU T lo s.tm o s.H) := by
  unfold AStepU at h
  unfold step1
  cases hw : awanted ops s.tm o
  · rw [hw] at h
    obtain ⟨s', h1, h2⟩ := APut.spec h
    exact ⟨0, s', h1, by rw [fin_H h1]; exact Up.refl _, h2, fun e => by cases e⟩
  · rw [hw] at h
    simp only [cond_true] at h ⊢
    split at h
    · rename_i v H ha
      obtain ⟨hu, h0, h⟩ := h
      obtain ⟨s', h1, h2⟩ := APut.spec h
      exact ⟨0, s', by simp only [ha, h1], by rw [fin_H h1]; exact hu, h2, fun _ => h0⟩
    · rename_i H ha
      obtain ⟨hu, h⟩ := h
      obtain ⟨s', h1, h2⟩ := APut.spec h
      refine ⟨0, s', by simp only [ha, h1], by rw [fin_H h1]; exact hu, h2, fun _ hlk _ => ?_⟩
      exfalso
      rcases look_op hlk with ⟨t, x, hop⟩ | ⟨sd, dd, x, hop⟩ <;>
        · unfold aop at ha
          simp only [hop] at ha
          split at ha
          · unfold val at ha; split at ha <;> cases ha
          · cases ha
    · rename_i f args H ha
      obtain ⟨hu, h⟩ := h
      unfold ACall at h
      obtain ⟨k, v, H', hc, hu2, h⟩ := h
      obtain ⟨s', h1, h2⟩ := APut.spec h
      refine ⟨k, s', by simp only [ha, hc, h1], by rw [fin_H h1]; exact hu.trans hu2, h2, fun _ hlk _ => ?_⟩
      rw [enter_act ha] at hlk
      cases hlk
    · exact h.elim
theorem AOpsU.spec : ∀ (l : List Oper) (Q : St → Prop) (s : St), AOpsU P T lo n ops l Q s → ∃ k r s', evTrace P T n (evCall P T k) ops l s = some r ∧ r.getLast? = some s' ∧ Q s' ∧ (∀ x ∈ r, Up lo s.H x.H) ∧
    (∀ (k : Nat) (o : Oper) (s1 : St), l[k]? = some o → r[k]? = some s1 → awanted ops s1.tm o = true → cls T o.op = .look → nl T ops o = false → LooksU T lo s1.tm o s1.H) := by
  intro l
  induction l with
  | nil => intro Q s h; exact ⟨0, [s], s, rfl, rfl, h, fun x hx => by simp at hx; rw [hx]; exact Up.refl _, fun k o s1 hk => by simp at hk⟩
  | cons o l ih =>
    intro Q s h
    obtain ⟨k1, s1, h1, h2, h3, h4⟩ := AStepU.spec (show AStepU P T lo n ops o (AOpsU P T lo n ops l Q) s from h)
    obtain ⟨k2, r, s', g1, g2, g3, g4, g5⟩ := ih _ _ h3
    refine ⟨max k1 k2, s :: r, s', ?_, by rw [List.getLast?_cons, g2]; rfl, g3, fun x hx => ?_, fun k o' s2 hk hs => ?_⟩
    · simp only [evTrace, step1_le (evCall_le (Nat.le_max_left k1 k2)) h1, evTrace_le (evCall_le (Nat.le_max_right k1 k2)) _ _ _ g1]
    · rcases List.mem_cons.1 hx with rfl | hx
      · exact Up.refl _
      · exact h2.trans (g4 x hx)
    · cases k with
      | zero =>
        simp at hk hs
        subst hk hs
        exact h4
      | succ k => exact g5 k o' s2 (by simpa using hk) (by simpa using hs)
theorem aw_drawU0 {id : Nat} {l : List Oper} (lo : Nat) (h : AOpsU P T lo n l.toArray l (Q .normal) s) : Aw P T n (.region id l.toArray true) Q s := by
  obtain ⟨k, r, s', h1, h2, h3, h4, h5⟩ := AOpsU.spec _ _ _ h
  unfold Aw
  refine ⟨k + 1, .normal, s', ?_, h3⟩
  rw [evCode_region]
  obtain ⟨g1, g2, g3, s2, g4, g5⟩ := evTrace_spec _ _ _ h1
  rw [h2] at g4; cases g4
  have hst : (loose T l.toArray).all (steady T l.toArray r) = true := by
    rw [List.all_eq_true]
    intro p hp
    unfold steady
    obtain ⟨i, j⟩ := p
    have hij : i < l.length ∧ j < l.length ∧ cls T ((l[i]?).getD default).op = .look := by
      unfold loose at hp
      rw [List.mem_flatMap] at hp
      obtain ⟨i', hi', hp⟩ := hp
      obtain ⟨j', hj', hp⟩ := List.mem_filterMap.1 hp
      have : i = i' ∧ j = j' := by
        split at hp
        · revert hp; generalize i'.blt j' = b1; intro hp
          cases b1 <;> simp only [cond_false, cond_true] at hp
          · revert hp; generalize Nat.testBit _ _ = b2; intro hp; cases b2 <;> simp only [cond_false, cond_true] at hp <;> cases hp; exact ⟨rfl, rfl⟩
          · revert hp; generalize Nat.testBit _ _ = b2; intro hp; cases b2 <;> simp only [cond_false, cond_true] at hp <;> cases hp; exact ⟨rfl, rfl⟩
        · cases hp
      obtain ⟨rfl, rfl⟩ := this
      simp at hi' hj'
      refine ⟨hi', hj', ?_⟩
      split at hp
      · rename_i c1 c2
        rw [show l.toArray[i]? = some l[i] from by simp [hi']] at c1
        simp only [Option.map_some, Option.some.injEq] at c1
        rw [List.getElem?_eq_getElem hi']
        exact c1
      · cases hp
    have e1 : r[i]? = some (r[i]'(by omega)) := List.getElem?_eq_getElem _
    have e2 : l.toArray[i]? = some (l[i]'hij.1) := by simp [hij.1]
    have e3 : r[j]? = some (r[j]'(by omega)) := List.getElem?_eq_getElem _
    have e4 : r[j + 1]? = some (r[j + 1]'(by omega)) := List.getElem?_eq_getElem _
    have m1 := h4 _ (List.getElem_mem (by omega : i < r.length))
    have m2 := h4 _ (List.getElem_mem (by omega : j < r.length))
    have m3 := h4 _ (List.getElem_mem (by omega : j + 1 < r.length))
    simp only [e1, e2, e3, e4]
    cases hw : awanted l.toArray (r[i]'(by omega)).tm (l[i]'hij.1)
    · rfl
    · simp only [cond_true]
      have hlook : cls T (l[i]'hij.1).op = .look := by
        have := hij.2.2
        rw [List.getElem?_eq_getElem hij.1] at this
        exact this
      obtain ⟨x, u, v, k1, k2, k3, k4, k5⟩ := h5 i (l[i]'hij.1) _ (by simp [hij.1]) e1 hw hlook (by
        cases hnl : nl T l.toArray (l[i]'hij.1) with
        | false => rfl
        | true =>
          have := List.all_eq_true.1 hnl _ hp
          simp only [e2, beq_self_eq_true, Bool.not_true] at this
          cases this)
      have same : ∀ H' : Heap, Up lo s.H H' → alook T (l[i]'hij.1).op u H' = some v := by
        intro H' hu
        rcases alook_dep k3 with hi | ⟨b, hb, _, hc⟩
        · exact hi H'
        · rw [hc H' (r[i]'(by omega)).H (by rw [hu.get b (k5 b hb), m1.get b (k5 b hb)])]
          exact k3
      simp only [k1, k2, k3, same _ m2, same _ m3, k4, Bool.and_self]
  simp only [evRegion, cond_true]
  cases hl : loose T l.toArray with
  | nil => simp only [g5]
  | cons p ps =>
    rw [hl] at hst
    simp only [h1, hst, cond_true, h2]
theorem aw_drawU {id : Nat} (lo : Nat) (h : AOpsU P T lo n ops ops.toList (Q .normal) s) : Aw P T n (.region id ops true) Q s := by
  obtain ⟨l⟩ := ops
  exact aw_drawU0 lo h
theorem aput_of {dst : Option Tmp} {v : Value} {tm tm' : Tr Value} {H : Heap} (hd : dput n tm dst v = some tm') (hk : K ⟨tm', H⟩) : APut n dst v tm H K := aput_k hd hk
theorem runU_app : ∀ (l1 l2 : List Oper) (s s1 : St), runC P T n ops l1 s = some s1 → AOpsU P T lo n ops l2 K s1 → AOpsU P T lo n ops (l1 ++ l2) K s := by
  intro l1
  induction l1 with
  | nil => intro l2 s s1 h hk; cases h; exact hk
  | cons o l1 ih =>
    intro l2 s s1 h hk
    simp only [runC] at h
    show AStepU P T lo n ops o _ s
    unfold AStepU
    cases hw : awanted ops s.tm o
    · rw [hw] at h
      simp only [cond_false] at h ⊢
      split at h
      · rename_i s2 h2
        exact aput_of_fin h2 (ih l2 s2 s1 h hk)
      · cases h
    · rw [hw] at h
      simp only [cond_true] at h ⊢
      cases hp : pureOp o.op
      · rw [hp] at h; cases h
      · rw [hp] at h
        simp only [cond_true] at h
        split at h
        · rename_i v H1 ha
          obtain ⟨e1, e2⟩ := pure_heap hp ha
          subst e1
          split at h
          · rename_i s2 h2
            rw [ha]
            refine ⟨Up.refl _, fun hlk _ => ?_, aput_of_fin h2 (ih l2 s2 s1 h hk)⟩
            exfalso
            rcases look_op hlk with ⟨t, x, e⟩ | ⟨sd, dd, x, e⟩ <;> (rw [e] at hp; cases hp)
          · cases h
        · cases h
theorem aopsU_go {l : List Oper} (j : Nat) (h : (runC P T n ops (l.take j) s).isSome = true) (hk : AOpsU P T lo n ops (l.drop j) K (outS (runC P T n ops (l.take j) s))) : AOpsU P T lo n ops l K s := by
  have := runU_app (lo := lo) (K := K) (l.take j) (l.drop j) s _ (some_outS h) hk
  rwa [List.take_append_drop] at this
theorem aopsU_see {l : List Oper} (t : Nat) (v : Value) (h : s.tm.get t = some v) (hk : AOpsU P T lo n ops l K ⟨s.tm.put t (some v), s.H⟩) : AOpsU P T lo n ops l K s := by
  rw [st_see t v h]; exact hk
theorem aopsU_one {l : List Oper} {v : Value} {H' : Heap} {tm' : Tr Value} (he : l.isEmpty = false) (hw : awanted ops s.tm (hdO l) = true) (ha : aop P T s.tm (hdO l) s.H = some (.val v, H')) (hu : Up lo s.H H') (hlk : cls T (hdO l).op = .look → nl T ops (hdO l) = false → LooksU T lo s.tm (hdO l) s.H) (hd : dput n s.tm (hdO l).dst v = some tm')
    (hk : AOpsU P T lo n ops l.tail K ⟨tm', H'⟩) : AOpsU P T lo n ops l K s := by
  rw [hdO_tail he]
  show AStepU P T lo n ops (hdO l) _ s
  unfold AStepU
  rw [hw, ha]
  exact ⟨hu, hlk, aput_k hd hk⟩
/-- What is free, and leaves memory as it is. -/
theorem aopsU_pt {l : List Oper} (t : Nat) (v : Value) (he : l.isEmpty = false) (hw : awanted ops s.tm (hdO l) = true) (hd : dput n s.tm (hdO l).dst v = some (s.tm.put t (some v)))
    (hf : cls T (hdO l).op = .free) (ha : aop P T s.tm (hdO l) s.H = some (.val v, s.H)) (hk : AOpsU P T lo n ops l.tail K ⟨s.tm.put t (some v), s.H⟩) : AOpsU P T lo n ops l K s :=
  aopsU_one he hw ha (Up.refl _) (fun h _ => by rw [hf] at h; cases h) hd hk
/-- What is free, and makes memory. -/
theorem aopsU_mk {l : List Oper} (t : Nat) (v : Value) (H0 H' : Heap) (he : l.isEmpty = false) (hw : awanted ops s.tm (hdO l) = true) (hd : dput n s.tm (hdO l).dst v = some (s.tm.put t (some v)))
    (hf : cls T (hdO l).op = .free) (ha : aop P T s.tm (hdO l) s.H = some (.val v, H')) (hH : s.H = H0) (hu : Up lo H0 H') (hk : AOpsU P T lo n ops l.tail K ⟨s.tm.put t (some v), H'⟩) : AOpsU P T lo n ops l K s :=
  aopsU_one he hw ha (by rw [hH]; exact hu) (fun h _ => by rw [hf] at h; cases h) hd hk
/-- What reads below the line. -/
theorem aopsU_look {l : List Oper} (t : Nat) (v u : Value) (x : Operand) (H0 : Heap) (he : l.isEmpty = false) (hw : awanted ops s.tm (hdO l) = true) (hd : dput n s.tm (hdO l).dst v = some (s.tm.put t (some v)))
    (hx : lookArg (hdO l).op = some x) (hu : aeval s.tm x = some u) (hH : s.H = H0) (hv : alook T (hdO l).op u H0 = some v) (hvv : veq v v = true) (hlow : LowB lo u) (ha : aop P T s.tm (hdO l) s.H = some (.val v, s.H))
    (hk : AOpsU P T lo n ops l.tail K ⟨s.tm.put t (some v), s.H⟩) : AOpsU P T lo n ops l K s :=
  aopsU_one he hw ha (Up.refl _) (fun _ _ => ⟨x, u, v, hx, hu, by rw [hH]; exact hv, hvv, hlow⟩) hd hk
/-- What reads, bound in order to all acts. -/
theorem aopsU_rd {l : List Oper} (t : Nat) (v : Value) (he : l.isEmpty = false) (hw : awanted ops s.tm (hdO l) = true) (hd : dput n s.tm (hdO l).dst v = some (s.tm.put t (some v)))
    (hn : nl T ops (hdO l) = true) (ha : aop P T s.tm (hdO l) s.H = some (.val v, s.H)) (hk : AOpsU P T lo n ops l.tail K ⟨s.tm.put t (some v), s.H⟩) : AOpsU P T lo n ops l K s :=
  aopsU_one he hw ha (Up.refl _) (fun _ h => by rw [hn] at h; cases h) hd hk
theorem aopsU_ask {l : List Oper} (t : Nat) (v : Value) (f : FuncId) (args : Array Value) (he : l.isEmpty = false) (hw : awanted ops s.tm (hdO l) = true) (hd : dput n s.tm (hdO l).dst v = some (s.tm.put t (some v)))
    (ha : aop P T s.tm (hdO l) s.H = some (.enter f args, s.H)) (ho : T.orc f args.toList = some v) (hk : AOpsU P T lo n ops l.tail K ⟨s.tm.put t (some v), s.H⟩) : AOpsU P T lo n ops l K s := by
  rw [hdO_tail he]
  show AStepU P T lo n ops (hdO l) _ s
  unfold AStepU
  rw [hw, ha]
  exact ⟨Up.refl _, acall_orc ho ⟨Up.refl _, aput_k hd hk⟩⟩
theorem aopsU_call {l : List Oper} (t : Nat) (f : FuncId) (args : Array Value) (H0 : Heap) {R : Value → Heap → Prop} (he : l.isEmpty = false) (hw : awanted ops s.tm (hdO l) = true) (hd : ∀ v, dput n s.tm (hdO l).dst v = some (s.tm.put t (some v)))
    (ha : aop P T s.tm (hdO l) s.H = some (.enter f args, s.H)) (hH : s.H = H0) (hc : ACall P T f args H0 R) (hR : ∀ v H', R v H' → Up lo H0 H') (hk : ∀ v H', R v H' → AOpsU P T lo n ops l.tail K ⟨s.tm.put t (some v), H'⟩) : AOpsU P T lo n ops l K s := by
  rw [hdO_tail he]
  show AStepU P T lo n ops (hdO l) _ s
  unfold AStepU
  rw [hw, ha]
  refine ⟨Up.refl _, ?_⟩
  rw [hH]
  exact hc.mono fun v H' h => ⟨hR v H' h, aput_k (hd v) (hk v H' h)⟩
theorem aopsU_end {l : List Oper} (he : l.isEmpty = true) (hk : K s) : AOpsU P T lo n ops l K s := by
  cases l with
  | nil => exact hk
  | cons o l => cases he
end
attribute [irreducible] AOpsU
theorem Gr.low {H : Heap} {lo lo' : Nat} {e : TypeId} {esz : Nat} {v : Value} {len : Nat} {xs : List Value} (h : Gr H lo e esz v len xs) (hl : lo' ≤ lo) : Gr H lo' e esz v len xs := by
  refine ⟨h.size, ?_⟩
  rcases h.at_ with h1 | ⟨B, h1, h2, h3, h4⟩
  · exact .inl h1
  · exact .inr ⟨B, h1, h2, h3, by omega⟩
theorem val_to {v : Value} {H H' : Heap} {r : Option Value} (h : r = some v) (hH : H = H') : val r H = some (.val v, H') := by rw [h, hH]; rfl
/-- A slice as text. -/
def bstr (l : List Value) : ByteArray := (bytesOf l).getD .empty
theorem aconv_at {T : Tab} {s d e : TypeId} (hs : T.under s = some (.slice e)) (hd : T.under d = some .string) (he : isU8 (T.under e) = true) {H : Heap} {b off n cap : Nat} {cells l : List Value} {el : TypeId} {ro : Bool} {r : ByteArray} (g : H.get b = some ⟨cells, el, ro⟩) (hl : (cells.drop off).take n = l) (hn : l.length = n) (hb : bytesOf l = some r) :
    aconvert T s d (.slice (some ⟨b, off, none⟩) n cap) H = some (.string r) := by
  unfold aconvert
  have : l.length.beq n = true := by rw [beq_dec]; simp [hn]
  simp only [hs, hd, he, cond_true, g, hl, this, hb]
/-- Something is put behind a slice that has no room. -/
theorem aappend_full {T : Tab} {st xt e : TypeId} {xd : TypeDesc} {s0 by_ : Nat} {z : Value} (hu : T.under st = some (.slice e)) (hx : T.under xt = some xd) (hi : isIntD xd = false) (hs : T.size e = some (s0 + 1)) (hb : T.bytes e = some (by_ + 1)) (hz : T.zero e = some z)
    {H : Heap} {x : Value} {B len n cap : Nat} {xs new : List Value} {eo : TypeId} (hget : H.get B = some ⟨xs, eo, false⟩) (hxs : xs.length = len * (s0 + 1)) (hsrc : asrc (s0 + 1) x H = some (n, new)) (hn : 0 < n) (hne : blockOf x ≠ some B) (hcap : cap < len + n) (hunk : cap < unk)
    (hbig : (len + n) * (by_ + 1) ≤ 140737488355328) :
    aappend T st xt (.slice (some ⟨B, 0, none⟩) len cap) x H = some (.slice (some ⟨H.n, 0, none⟩) (len + n) (unk + (s0 + 1)), H.push ⟨xs ++ new, e, false⟩) := by
  have en : n.beq 0 = false := by rw [beq_dec]; simp; omega
  have e1 : (blockOf x == some B) = false := by simpa using hne
  have e2 : unk.ble cap = false := by rw [ble_dec]; simp; omega
  have e5 : (len + n).ble cap = false := by rw [ble_dec]; simp; omega
  have e3 : (0 + len * (s0 + 1)).ble xs.length = true := by rw [ble_dec]; simp [hxs]
  have e4 : ((len + n) * (by_ + 1)).ble 140737488355328 = true := by rw [ble_dec]; simp [hbig]
  have e7 : (xs.drop 0).take (len * (s0 + 1)) = xs := by rw [List.drop_zero, List.take_of_length_le (by rw [hxs]; exact Nat.le_refl _)]
  unfold aappend
  simp only [hu, hx, hi, hs, hb, hz, hsrc, cond_false, e1, hget, e2, e5, cond_true, en, e3, e4, Bool.and_self, e7]
/-- A name for a piece of code, opened. -/
theorem aw_code {P : Program} {T : Tab} {n : Nat} {s : St} {Q : Xt → St → Prop} {c c' : Code} (e : c = c') (h : Aw P T n c' Q s) : Aw P T n c Q s := by
  rw [e]; exact h
/-- A slice made text, as an operation. -/
theorem ha_cv {P : Program} {T : Tab} {tm : Tr Value} {o : Oper} {H0 H H' : Heap} {s d : TypeId} {x : Operand} {u v : Value} (ho : o.op = .convert s d x) (hx : aeval tm x = some u) (hH : H0 = H) (h : aconvert T s d u H = some v) (hH' : H = H') : aop P T tm o H0 = some (.val v, H') := by
  subst hH hH'
  unfold aop
  simp only [ho, hx, h, orVal, val]
end Go.Ev
