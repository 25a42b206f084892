/- Of the evaluator alone: what operations do to memory; which orders of a region there are. -/
import Derived.Test.YthmcpmdohmfeiaaGreatDoorEvK
namespace Go.Ev
open Go
set_option linter.unusedVariables false
set_option linter.unusedSimpArgs false
theorem val_H {u : Option Value} {H H' : Heap} {r : Res} (h : val u H = some (r, H')) : H' = H := by
  unfold val at h; split at h <;> cases h; rfl
theorem val2_H {u : Option (Value × Heap)} {H' : Heap} {r : Res} (h : val2 u = some (r, H')) : ∃ v, u = some (v, H') := by
  unfold val2 at h; split at h
  · cases h; exact ⟨_, rfl⟩
  · cases h
theorem aput_n {b off : Nat} {cs : List Value} {H H' : Heap} (h : aput b off cs H = some H') : Grows H H' := by
  unfold aput at h
  split at h
  · rename_i o ho
    cases hc : (!o.ro && cs.all one && (off + cs.length).ble o.cells.length) <;> rw [hc] at h <;> cases h
    refine ⟨Nat.le_refl _, fun hw x hx => ?_⟩
    rw [Heap.get_put] at hx
    split at hx
    · rename_i e; subst e; exact hw x (by simp [ho])
    · exact hw x hx
  · cases h
theorem mput_n {H : Heap} {b : Nat} {o : Ob} (ho : H.get b = some o) (cs : List Value) : Grows H (H.put b ⟨cs, o.elem, false⟩) := by
  refine ⟨Nat.le_refl _, fun hw x hx => ?_⟩
  rw [Heap.get_put] at hx
  split at hx
  · rename_i e; subst e; exact hw x (by simp [ho])
  · exact hw x hx
theorem aupdate_n {P : Program} {T : Tab} {t : TypeId} {u i z : Value} {H H' : Heap} (h : aupdate P T t u i z H = some H') : Grows H H' := by
  unfold aupdate at h
  split at h
  · rename_i kt et b o c l hk hm
    obtain ⟨_, ho, _⟩ := mapAt_spec hm
    cases hc : (o.ro || !mkey P kt i) <;> rw [hc] at h
    · simp only [cond_false] at h
      split at h
      · cases h; exact mput_n ho _
      · cases h; exact mput_n ho _
      · cases h
    · cases h
  · cases h
theorem aentry_n {P : Program} {T : Tab} {t : TypeId} {u i r : Value} {H H' : Heap} (h : aentry P T t u i H = some (r, H')) : Grows H H' := by
  unfold aentry at h
  split at h
  · rename_i kt et b o c l hk hm
    obtain ⟨_, ho, _⟩ := mapAt_spec hm
    cases hc : (o.ro || !mkey P kt i) <;> rw [hc] at h
    · simp only [cond_false] at h
      split at h
      · cases h; exact mput_n ho _
      · rename_i z _ _
        cases hz : closed z <;> rw [hz] at h
        · cases h
        · cases h; exact mput_n ho _
      · cases h
    · cases h
  · cases h
theorem adelete_n {P : Program} {T : Tab} {t : TypeId} {u i : Value} {H H' : Heap} (h : adelete P T t u i H = some H') : Grows H H' := by
  unfold adelete at h
  split at h
  · rename_i kt et b o c l hk hm
    obtain ⟨_, ho, _⟩ := mapAt_spec hm
    cases hc : (o.ro || !mkey P kt i) <;> rw [hc] at h
    · simp only [cond_false] at h
      split at h
      · cases h; exact mput_n ho _
      · cases h; exact mput_n ho _
      · cases h
    · cases h
  · cases h
theorem aestore_n {u s z : Value} {H H' : Heap} (h : aestore u s z H = some H') : Grows H H' := by
  unfold aestore at h
  split at h
  · rename_i b o c l k n hm
    obtain ⟨_, ho, _⟩ := mapAt_spec hm
    cases hc : o.ro <;> rw [hc] at h
    · simp only [cond_false] at h
      split at h
      · cases h; exact mput_n ho _
      · cases h
    · cases h
  · cases h
theorem arange_n {T : Tab} {t : TypeId} {u r : Value} {H H' : Heap} (h : arange T t u H = some (r, H')) : Grows H H' := by
  unfold arange at h
  split at h
  · cases h; exact Grows.push _ _
  · cases h
theorem iterAt_spec {u : Value} {H : Heap} {i b s q : Nat} {o : Ob} {l : List Nat} (h : iterAt u H = some (i, o, b, s, q, l)) : u = .chan (some i) ∧ H.get i = some o ∧ o.cells = icells b s q l := by
  unfold iterAt at h
  split at h
  · split at h
    · rename_i o' ho
      split at h
      · rename_i hp
        cases h
        exact ⟨rfl, ho, iparse_spec hp⟩
      · cases h
    · cases h
  · cases h
theorem anext_n {u r : Value} {H H' : Heap} (h : anext u H = some (r, H')) : Grows H H' := by
  unfold anext at h
  split at h
  · rename_i i io b since q seen hi
    obtain ⟨_, ho, _⟩ := iterAt_spec hi
    split at h
    · rename_i b' o' c l hm
      cases hc : (Nat.ble since q && l.all fun e => Nat.blt e.2.2 since) <;> rw [hc] at h
      · cases h
      · simp only [cond_true] at h
        split at h
        · cases h; exact Grows.refl _
        · cases h; exact mput_n ho _
        · cases h
    · cases h
  · cases h
theorem aclear_n {T : Tab} {t : TypeId} {A : Option Addr} {n : Nat} {H H' : Heap} (h : aclear T t A n H = some H') : Grows H H' := by
  unfold aclear at h
  split at h
  · cases h; exact Grows.refl _
  · split at h
    · split at h
      · rename_i z _
        cases hz : closed z <;> rw [hz] at h
        · cases h
        · exact aput_n h
      · cases h
    · cases h
theorem amap_n {P : Program} {T : Tab} {tm : Tr Value} {o : Oper} {H H' : Heap} {r : Res} (h : amap P T tm o H = some (r, H')) : Grows H H' := by
  unfold amap at h
  split at h
  · cases h; exact Grows.push _ _
  · split at h
    · rw [val_H h]; exact Grows.refl _
    · cases h
  · split at h
    · unfold skp at h
      split at h
      · rename_i hs; cases h; exact aupdate_n hs
      · cases h
    · cases h
  · split at h
    · obtain ⟨_, hs⟩ := val2_H h; exact aentry_n hs
    · cases h
  · split at h
    · unfold skp at h
      split at h
      · rename_i hs; cases h; exact aestore_n hs
      · cases h
    · cases h
  · split at h
    · obtain ⟨_, hs⟩ := val2_H h; exact arange_n hs
    · cases h
  · split at h
    · obtain ⟨_, hs⟩ := val2_H h; exact anext_n hs
    · cases h
  · split at h
    · rw [val_H h]; exact Grows.refl _
    · cases h
  · cases h
theorem astore_n {T : Tab} {t : TypeId} {u x : Value} {H H' : Heap} (h : astore T t u x H = some H') : Grows H H' := by
  unfold astore at h
  split at h
  · split at h
    · rename_i n hn
      cases hc : x.cells.size.beq n <;> rw [hc] at h
      · cases h
      · exact aput_n h
    · cases h
  · cases h
theorem aappend_n {T : Tab} {st xt : TypeId} {s x v : Value} {H H' : Heap} (h : aappend T st xt s x H = some (v, H')) : Grows H H' := by
  unfold aappend at h
  split at h
  · rename_i xd _ _ _ _ _
    cases hc : isIntD xd <;> rw [hc] at h <;> simp only [cond_false, cond_true] at h
    · split at h
      · split at h
        · rename_i n new _
          split at h
          · rename_i len cap _ _ _ _
            repeat' first
              | (cases h; done)
              | (cases h; exact Grows.push _ _)
              | (cases h; exact Grows.refl _)
              | (revert h; generalize (Nat.beq _ _ && Nat.beq _ _) = b1; intro h; cases b1 <;> simp only [cond_false, cond_true] at h)
              | (revert h; generalize Nat.beq _ _ = b1; intro h; cases b1 <;> simp only [cond_false, cond_true] at h)
              | (revert h; generalize Nat.ble _ _ = b1; intro h; cases b1 <;> simp only [cond_false, cond_true] at h)
          · revert h; generalize (blockOf x == some _) = b1; intro h; cases b1 <;> simp only [cond_false, cond_true] at h
            · split at h
              · rename_i o ho
                revert h; generalize o.ro = b2; intro h; cases b2 <;> simp only [cond_false, cond_true] at h
                · revert h; generalize unk.ble _ = b3; intro h; cases b3 <;> simp only [cond_false, cond_true] at h
                  · revert h; generalize (Nat.beq _ 0 && Nat.beq _ 0 && Nat.beq n 0) = b9; intro h; cases b9 <;> simp only [cond_false, cond_true] at h
                    · revert h; generalize Nat.ble (_ + n) _ = b4; intro h; cases b4 <;> simp only [cond_false, cond_true] at h
                      · revert h; generalize Nat.beq n 0 = b5; intro h; cases b5 <;> simp only [cond_false, cond_true] at h
                        · revert h; generalize (Nat.ble _ _ && _) = b6; intro h; cases b6 <;> simp only [cond_false, cond_true] at h <;> cases h
                          exact Grows.push _ _
                        · cases h
                      · split at h
                        · rename_i H2 hp; cases h; exact aput_n hp
                        · cases h
                    · revert h; generalize (Nat.beq o.elem _ && _) = b8; intro h; cases b8 <;> simp only [cond_false, cond_true] at h
                      · cases h
                      · cases h; exact Grows.refl _
                  · revert h; generalize Nat.beq o.elem _ = b4; intro h; cases b4 <;> simp only [cond_false, cond_true] at h
                    · cases h
                    · revert h; generalize Nat.beq n 0 = b5; intro h; cases b5 <;> simp only [cond_false, cond_true] at h
                      · revert h; generalize (Nat.ble _ _ && _ && _) = b6; intro h; cases b6 <;> simp only [cond_false, cond_true] at h <;> cases h
                        exact Grows.trans (b := H.kill _) ⟨Nat.le_refl _, fun h => h.kill _⟩ (Grows.push _ _)
                      · cases h; exact Grows.refl _
                · cases h
              · cases h
            · cases h
          · cases h
        · cases h
      · cases h
    · cases h
  · cases h
theorem acopy_n {T : Tab} {dt : TypeId} {d x v : Value} {H H' : Heap} (h : acopy T dt d x H = some (v, H')) : Grows H H' := by
  unfold acopy at h
  split at h
  · split at h
    · split at h
      · cases h; exact Grows.refl _
      · split at h
        · split at h
          · rename_i hp; cases h; exact aput_n hp
          · cases h
        · cases h
      · cases h
    · cases h
  · cases h
theorem abuildSlice_H {T : Tab} {t : TypeId} {n : Nat} {ps : List (Nat × Value)} {v : Value} {H H' : Heap} (h : abuildSlice T t n ps H = some (v, H')) : ∃ ob, H' = H.push ob := by
  unfold abuildSlice at h
  split at h
  · split at h
    · rename_i s z _ _
      revert h; generalize (Nat.ble _ _ && closed z && _) = b1; intro h; cases b1 <;> simp only [cond_false, cond_true] at h
      · cases h
      · split at h
        · cases h; exact ⟨_, rfl⟩
        · cases h
    · cases h
  · cases h
theorem amakeSlice_H {T : Tab} {t : TypeId} {l c : Value} {v : Value} {H H' : Heap} (h : amakeSlice T t l c H = some (v, H')) : ∃ ob, H' = H.push ob := by
  unfold amakeSlice at h
  split at h
  · split at h
    · rename_i z _ _ _
      revert h; generalize (Nat.ble _ _ && _ && _ && closed z) = b1; intro h; cases b1 <;> simp only [cond_false, cond_true] at h <;> cases h
      exact ⟨_, rfl⟩
    · cases h
  · cases h
section
variable {P : Program} {T : Tab} {tm : Tr Value} {o : Oper} {H H' : Heap} {r : Res}
theorem aop_heap (h : aop P T tm o H = some (r, H')) : (cls T o.op = .act ∧ Grows H H') ∨ H' = H ∨ (cls T o.op = .free ∧ ∃ ob, H' = H.push ob) := by
  unfold aop at h
  split at h
  · exact .inr (.inl (val_H h))
  · exact .inr (.inl (val_H h))
  · split at h <;> cases h
    exact .inr (.inl rfl)
  · rename_i e hop
    split at h
    · rename_i z hz
      cases hc : closed z <;> rw [hc] at h <;> cases h
      exact .inr (.inr ⟨by rw [hop]; rfl, _, rfl⟩)
    · cases h
  · rename_i e x hop
    split at h <;> cases h
    exact .inr (.inr ⟨by rw [hop]; rfl, _, rfl⟩)
  · split at h
    · exact .inr (.inl (val_H h))
    · cases h
  · rename_i t n ps hop
    split at h
    · obtain ⟨v, hv⟩ := val2_H h
      exact .inr (.inr ⟨by rw [hop]; rfl, abuildSlice_H hv⟩)
    · cases h
  · split at h
    · exact .inr (.inl (val_H h))
    · cases h
  · rename_i t x y hop
    split at h
    · unfold skp at h
      split at h
      · rename_i hs; cases h; exact .inl ⟨by rw [hop]; rfl, astore_n hs⟩
      · cases h
    · cases h
  · split at h <;> cases h <;> exact .inr (.inl rfl)
  · split at h
    · exact .inr (.inl (val_H h))
    · cases h
  · split at h <;> cases h
    exact .inr (.inl rfl)
  · split at h
    · exact .inr (.inl (val_H h))
    · cases h
  · split at h <;> cases h
    exact .inr (.inl rfl)
  · split at h <;> cases h
    exact .inr (.inl rfl)
  · rename_i t l c hop
    split at h
    · obtain ⟨v, hv⟩ := val2_H h
      exact .inr (.inr ⟨by rw [hop]; rfl, amakeSlice_H hv⟩)
    · cases h
  · split at h
    · exact .inr (.inl (val_H h))
    · cases h
  · split at h
    · exact .inr (.inl (val_H h))
    · cases h
  · split at h
    · split at h
      · exact .inr (.inl (val_H h))
      · cases h
    · cases h
  · split at h
    · exact .inr (.inl (val_H h))
    · cases h
  · split at h
    · exact .inr (.inl (val_H h))
    · cases h
  · split at h
    · exact .inr (.inl (val_H h))
    · cases h
  · rename_i c hop
    unfold acall at h
    split at h
    · rename_i f hc
      split at h
      · split at h <;> cases h
        exact .inr (.inl rfl)
      · cases h
    · cases h
    · rename_i b hc
      split at h
      · obtain ⟨v, hv⟩ := val2_H h
        exact .inl ⟨by rw [hop]; simp [cls, hc], aappend_n hv⟩
      · obtain ⟨v, hv⟩ := val2_H h
        exact .inl ⟨by rw [hop]; simp [cls, hc], acopy_n hv⟩
      · split at h <;> cases h
        exact .inr (.inl rfl)
      · split at h <;> cases h
        exact .inr (.inl rfl)
      · split at h
        · rename_i hs; cases h; exact .inl ⟨by rw [hop]; simp [cls, hc], adelete_n hs⟩
        · cases h
      · split at h
        · rename_i hu hs; cases h; exact .inl ⟨by rw [hop]; simp [cls, hc], aclear_n hs⟩
        · cases h
      · cases h
      · cases h
      · cases h; exact .inr (.inl rfl)
      · cases h; exact .inr (.inl rfl)
      · cases h
      · cases h
      · exact .inr (.inl (val_H h))
  · exact .inr (.inl (val_H h))
  · exact .inl ⟨amap_act h, amap_n h⟩
end
theorem aop_grows {P : Program} {T : Tab} {tm : Tr Value} {o : Oper} {H H' : Heap} {r : Res} (h : aop P T tm o H = some (r, H')) : Grows H H' := by
  rcases aop_heap h with ⟨_, h⟩ | rfl | ⟨_, ob, rfl⟩
  · exact h
  · exact Grows.refl _
  · exact Grows.push _ _
theorem enter_act {P : Program} {T : Tab} {tm : Tr Value} {o : Oper} {H H' : Heap} {f : FuncId} {args : Array Value} (h : aop P T tm o H = some (.enter f args, H')) : cls T o.op = .act := by
  have hval : ∀ {u : Option Value}, val u H = some (.enter f args, H') → False := fun h => by unfold val at h; split at h <;> cases h
  have hval2 : ∀ {u : Option (Value × Heap)}, val2 u = some (.enter f args, H') → False := fun h => by unfold val2 at h; split at h <;> cases h
  unfold aop at h
  split at h
  case h_4 e hop =>
    split at h
    · rename_i z hz
      cases hc : closed z <;> rw [hc] at h <;> cases h
    · cases h
  case h_23 c hop =>
    unfold acall at h
    split at h
    · rename_i g hc; rw [hop]; simp [cls, hc]
    · cases h
    · split at h
      · exact (hval2 h).elim
      · exact (hval2 h).elim
      · split at h <;> cases h
      · split at h <;> cases h
      · split at h <;> cases h
      · split at h <;> cases h
      · cases h
      · cases h
      · cases h
      · cases h
      · cases h
      · cases h
      · exact (hval h).elim
  all_goals first
    | exact amap_act h
    | exact (hval h).elim
    | (split at h <;> first | exact (hval h).elim | exact (hval2 h).elim | (cases h; done) | (split at h <;> first | exact (hval h).elim | (cases h; done)) | (unfold skp at h; split at h <;> cases h))
    | (cases h; done)
/-! Orders -/
def binds (e : Edge) : Bool := Region.binds .any e
theorem before_spec (ops : Array Oper) (j i : Nat) (h : ((Region.before ops).getD j 0).testBit i = true) :
    ∃ o, ops[j]? = some o ∧ ∃ e ∈ o.after, binds e = true ∧ (e.on = i ∨ (e.on < j ∧ ((Region.before ops).getD e.on 0).testBit i = true)) := by
  have gen : ∀ (l : List Oper) (acc : Array Nat), (∀ j i, (acc.getD j 0).testBit i = true → ∃ o, ops[j]? = some o ∧ ∃ e ∈ o.after, binds e = true ∧ (e.on = i ∨ (e.on < j ∧ (acc.getD e.on 0).testBit i = true))) →
      (∀ k, l[k]? = ops[acc.size + k]?) →
      ∀ j i, ((l.foldl (fun acc o => acc.push (o.after.foldl (fun s e => if Region.binds .any e then s ||| 2 ^ e.on ||| acc.getD e.on 0 else s) 0)) acc).getD j 0).testBit i = true →
        ∃ o, ops[j]? = some o ∧ ∃ e ∈ o.after, binds e = true ∧ (e.on = i ∨ (e.on < j ∧ ((l.foldl (fun acc o => acc.push (o.after.foldl (fun s e => if Region.binds .any e then s ||| 2 ^ e.on ||| acc.getD e.on 0 else s) 0)) acc).getD e.on 0).testBit i = true)) := by
    intro l
    induction l with
    | nil => intro acc h1 _ j i h; exact h1 j i h
    | cons o l ih =>
      intro acc h1 h2 j i h
      simp only [List.foldl_cons] at h ⊢
      refine ih (acc.push (o.after.foldl (fun s e => if Region.binds .any e then s ||| 2 ^ e.on ||| acc.getD e.on 0 else s) 0)) (fun j i hj => ?_) (fun k => ?_) j i h
      · have ho : ops[acc.size]? = some o := by have := h2 0; simpa using this.symm
        have hpush : ∀ x, x < acc.size → (acc.push (o.after.foldl (fun s e => if Region.binds .any e then s ||| 2 ^ e.on ||| acc.getD e.on 0 else s) 0)).getD x 0 = acc.getD x 0 := fun x hx => by
          simp [Array.getD_eq_getD_getElem?, Array.getElem?_push, show ¬ x = acc.size by omega]
        have hbit : ∀ x i, (acc.getD x 0).testBit i = true → x < acc.size := fun x i hx => by
          rcases Nat.lt_or_ge x acc.size with h | h
          · exact h
          · simp [Array.getD_eq_getD_getElem?, Array.getElem?_eq_none h] at hx
        by_cases hjs : j < acc.size
        · rw [hpush j hjs] at hj
          obtain ⟨o', h3, e, h4, h5, h6⟩ := h1 j i hj
          refine ⟨o', h3, e, h4, h5, ?_⟩
          rcases h6 with h6 | ⟨h6, h7⟩
          · exact .inl h6
          · exact .inr ⟨h6, by rw [hpush _ (hbit _ _ h7)]; exact h7⟩
        · have hje : j = acc.size := by
            rcases Nat.lt_or_ge acc.size j with h | h
            · simp [Array.getD_eq_getD_getElem?, Array.getElem?_push, show ¬ j = acc.size by omega, Array.getElem?_eq_none (show acc.size ≤ j by omega)] at hj
            · omega
          subst hje
          refine ⟨o, ho, ?_⟩
          have hval : (acc.push (o.after.foldl (fun s e => if Region.binds .any e then s ||| 2 ^ e.on ||| acc.getD e.on 0 else s) 0)).getD acc.size 0 = o.after.foldl (fun s e => if Region.binds .any e then s ||| 2 ^ e.on ||| acc.getD e.on 0 else s) 0 := by
            simp [Array.getD_eq_getD_getElem?]
          rw [hval] at hj
          have inner : ∀ (es : List Edge) (s : Nat), (es.foldl (fun s e => if Region.binds .any e then s ||| 2 ^ e.on ||| acc.getD e.on 0 else s) s).testBit i = true →
              s.testBit i = true ∨ ∃ e ∈ es, binds e = true ∧ (e.on = i ∨ (acc.getD e.on 0).testBit i = true) := by
            intro es
            induction es with
            | nil => intro s h; exact .inl h
            | cons e es ih =>
              intro s h
              simp only [List.foldl_cons] at h
              rcases ih _ h with h | ⟨e', h8, h9⟩
              · by_cases hb : Region.binds .any e = true
                · rw [if_pos hb] at h
                  simp only [Nat.testBit_or, Bool.or_eq_true, Nat.testBit_two_pow, decide_eq_true_eq] at h
                  rcases h with (h | h) | h
                  · exact .inl h
                  · exact .inr ⟨e, by simp, hb, .inl h⟩
                  · exact .inr ⟨e, by simp, hb, .inr h⟩
                · rw [if_neg hb] at h; exact .inl h
              · exact .inr ⟨e', by simp [h8], h9⟩
          rw [← Array.foldl_toList] at hj
          rcases inner _ _ hj with h | ⟨e, h8, h9, h10⟩
          · simp at h
          · refine ⟨e, by simpa using h8, h9, ?_⟩
            rcases h10 with h10 | h10
            · exact .inl h10
            · exact .inr ⟨hbit _ _ h10, by rw [hpush _ (hbit _ _ h10)]; exact h10⟩
      · have := h2 (k + 1)
        simp only [List.getElem?_cons_succ] at this
        rw [this]
        congr 1
        simp; omega
  have := gen ops.toList #[] (fun j i h => by simp at h) (fun k => by simp) j i
  unfold Region.before at h ⊢
  rw [← Array.foldl_toList] at h ⊢
  exact this h
/-- What is listed is listed with all that comes ahead of it. -/
def Closed (ops : Array Oper) (L : Array Bool) : Prop := ∀ j o, ops[j]? = some o → L.getD j false = true → ∀ e ∈ o.after, binds e = true → L.getD e.on false = true
theorem closed_before {ops : Array Oper} {L : Array Bool} (hc : Closed ops L) : ∀ (j i : Nat), (∀ o, ops[j]? = some o → ∀ e ∈ o.after, binds e = true → L.getD e.on false = true) →
    ((Region.before ops).getD j 0).testBit i = true → L.getD i false = true := by
  intro j
  induction j using Nat.strongRecOn with
  | _ j ih =>
    intro i hl hb
    obtain ⟨o, ho, e, he, hbe, h⟩ := before_spec ops j i hb
    have h1 := hl o ho e he hbe
    rcases h with rfl | ⟨h2, h3⟩
    · exact h1
    · exact ih e.on h2 i (fun o' ho' => hc e.on o' ho' h1) h3
def ordered (b : Array Nat) (i j : Nat) : Bool := bif i.blt j then (b.getD j 0).testBit i else (b.getD i 0).testBit j
def isAct (T : Tab) (o : Oper) : Bool := match cls T o.op with | .act => true | _ => false
def pairOk (T : Tab) (ops : Array Oper) (b : Array Nat) (i j : Nat) (oi oj : Oper) : Bool :=
  (match oi.dst with | some d => bif (oj.looksAt ops).contains d then !(i.beq j) && ordered b i j else true | none => true) &&
  (i.beq j || ((match oi.dst with | some d => oj.dst != some d | none => true) && (!(isAct T oi && isAct T oj) || ordered b i j)))
def drawOk (T : Tab) (ops : Array Oper) : Bool :=
  (List.range ops.size).all fun j => match ops[j]? with
    | none => true
    | some oj => oj.after.toList.all (fun e => !binds e || e.on.blt j) && (List.range ops.size).all fun i => match ops[i]? with
      | none => true
      | some oi => pairOk T ops (Region.before ops) i j oi oj
structure DrawOk (T : Tab) (ops : Array Oper) : Prop where
  edge : ∀ (j : Nat) (o : Oper), ops[j]? = some o → ∀ e ∈ o.after, binds e = true → e.on < j
  look : ∀ (i j : Nat) (oi oj : Oper) (d : Tmp), ops[i]? = some oi → ops[j]? = some oj → oi.dst = some d → d ∈ oj.looksAt ops → i ≠ j ∧ ordered (Region.before ops) i j = true
  dst : ∀ (i j : Nat) (oi oj : Oper) (d : Tmp), i ≠ j → ops[i]? = some oi → ops[j]? = some oj → oi.dst = some d → oj.dst ≠ some d
  act : ∀ (i j : Nat) (oi oj : Oper), i ≠ j → ops[i]? = some oi → ops[j]? = some oj → cls T oi.op = .act → cls T oj.op = .act → ordered (Region.before ops) i j = true
theorem drawOk_spec {T : Tab} {ops : Array Oper} (h : drawOk T ops = true) : DrawOk T ops := by
  have hlt : ∀ {j : Nat} {o : Oper}, ops[j]? = some o → j < ops.size := fun h => (Array.getElem?_eq_some_iff.1 h).1
  have h1 : ∀ j oj, ops[j]? = some oj → (oj.after.toList.all (fun e => !binds e || e.on.blt j)) = true ∧ ∀ i oi, ops[i]? = some oi → pairOk T ops (Region.before ops) i j oi oj = true := by
    intro j oj hj
    have := List.all_eq_true.1 h j (by simpa using hlt hj)
    simp only [hj, Bool.and_eq_true] at this
    refine ⟨this.1, fun i oi hi => ?_⟩
    have h2 := List.all_eq_true.1 this.2 i (by simpa using hlt hi)
    simpa only [hi] using h2
  refine ⟨fun j o hj e he hb => ?_, fun i j oi oj d hi hj hd hl => ?_, fun i j oi oj d hne hi hj hd => ?_, fun i j oi oj hne hi hj ha hb => ?_⟩
  · have := List.all_eq_true.1 (h1 j o hj).1 e (by simpa using he)
    simpa [hb, Nat.blt_eq] using this
  · have := (h1 j oj hj).2 i oi hi
    unfold pairOk at this
    simp only [Bool.and_eq_true] at this
    have h2 := this.1
    simp only [hd, List.contains_iff_mem.2 hl, cond_true, Bool.and_eq_true, Bool.not_eq_true'] at h2
    exact ⟨fun e => by rw [e] at h2; simp at h2, h2.2⟩
  · have := (h1 j oj hj).2 i oi hi
    unfold pairOk at this
    have hb : i.beq j = false := by
      cases hq : i.beq j
      · rfl
      · exact absurd (Nat.eq_of_beq_eq_true hq) hne
    simp only [Bool.and_eq_true, hb, Bool.false_or, hd] at this
    simpa using this.2.1
  · have := (h1 j oj hj).2 i oi hi
    unfold pairOk at this
    have hbq : i.beq j = false := by
      cases hq : i.beq j
      · rfl
      · exact absurd (Nat.eq_of_beq_eq_true hq) hne
    simp only [Bool.and_eq_true, hbq, Bool.false_or] at this
    have h3 := this.2.2
    simpa [isAct, ha, hb] using h3
end Go.Ev
