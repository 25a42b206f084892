/- What the evaluator comes to, the model comes to: regions, code, calls. -/
import Derived.Test.YthmcpmdohmfeiaaGreatDoorEvQ
namespace Go.Ev
open Go
set_option linter.unusedVariables false
set_option linter.unusedSimpArgs false
/-! The evaluator alone -/
section
variable {P : Program} {T : Tab} {callf : FuncId → Array Value → Heap → Option (Value × Heap)} {n : Nat} {ops : Array Oper}
def CallGrows (callf : FuncId → Array Value → Heap → Option (Value × Heap)) : Prop := ∀ f args H v H', callf f args H = some (v, H') → Grows H H'
theorem outc_grows (hg : CallGrows callf) {o : Oper} {s : St} {v : Value} {H' : Heap} (h : Outc P T callf ops o s v H') : Grows s.H H' := by
  rcases h with ⟨_, _, rfl⟩ | ⟨_, r, H1, h1, h2⟩
  · exact Grows.refl _
  · have := aop_grows h1
    rcases h2 with ⟨_, rfl⟩ | ⟨_, _, rfl⟩ | ⟨f, args, _, h3⟩
    · exact this
    · exact this
    · exact this.trans (hg _ _ _ _ _ h3)
theorem step1_grows (hg : CallGrows callf) {o : Oper} {s s' : St} (h : step1 P T n callf ops o s = some s') : Grows s.H s'.H := by
  obtain ⟨v, h1, _⟩ := step1_inv P T callf h
  exact outc_grows hg h1
/-- The operations in their order. -/
theorem evOps_sound [Bs] (hT : TabOk P T) (hF : FnsOk P T) (hC : CallOk P callf) {n : Nat} {ops : Array Oper} {Q : Exit → Act → World → Prop} (hg : CallGrows callf) :
    ∀ (l : List Oper) (s s' : St) (m : Map) (a : Act) (w : World), (∀ o ∈ l, boxOk P o) → evOps P T n callf ops l s = some s' → HWf s.H → TmRel m s.tm a.tmps → a.tmps.size = n → Rep P m s.H w →
      (∀ a' w' m', TmRel m' s'.tm a'.tmps → a'.tmps.size = n → a'.defers = a.defers → Rep P m' s'.H w' → Fr m s.H w m' s'.H w' → Q .normal a' w') → wpList P ops Q l a w := by
  intro l
  induction l with
  | nil =>
    intro s s' m a w _ h _ ht hn hr hq
    simp only [evOps] at h
    cases h
    exact hq a w m ht hn rfl hr (Fr.refl _ _ _)
  | cons o l ih =>
    intro s s' m a w hb h hwf ht hn hr hq
    simp only [evOps] at h
    split at h
    · rename_i s1 h1
      obtain ⟨v, ho, hd⟩ := step1_inv P T callf h1
      have := out_sound (K := wpList P ops Q l) (Q := Q) hT hF hC (hb o (by simp)) ho (ht.op _) ht.wanted hr (fun r H1 he => (aop_grows he).2 hwf) fun v' w' m' hv hr' hf => by
        obtain ⟨g1, g2, g3⟩ := dput_rel hd hn (ht.mono hf.le) hv
        exact ih s1 s' m' _ w' (fun o ho => hb o (by simp [ho])) h ((outc_grows hg ho).2 hwf) g1 g2 hr' fun a' w'' m'' k1 k2 k3 k4 k5 => hq a' w'' m'' k1 k2 (k3.trans g3) k4 (hf.trans hr k5)
      unfold wpO at this
      unfold wpList
      exact this
    · cases h
theorem evOps_grows (hg : CallGrows callf) : ∀ (l : List Oper) (s s' : St), evOps P T n callf ops l s = some s' → Grows s.H s'.H := by
  intro l
  induction l with
  | nil => intro s s' h; simp only [evOps] at h; cases h; exact Grows.refl _
  | cons o l ih =>
    intro s s' h
    simp only [evOps] at h
    split at h
    · rename_i s1 h1; exact (step1_grows hg h1).trans (ih _ _ h)
    · cases h
theorem evTrace_spec : ∀ (l : List Oper) (s : St) (r : List St), evTrace P T n callf ops l s = some r → r.length = l.length + 1 ∧ r[0]? = some s ∧ (∀ k o s1, l[k]? = some o → r[k]? = some s1 → ∃ s2, r[k + 1]? = some s2 ∧ step1 P T n callf ops o s1 = some s2) ∧ ∃ s', r.getLast? = some s' ∧ evOps P T n callf ops l s = some s' := by
  intro l
  induction l with
  | nil => intro s r h; simp only [evTrace] at h; cases h; exact ⟨rfl, rfl, fun k o s1 h => by simp at h, s, rfl, rfl⟩
  | cons o l ih =>
    intro s r h
    simp only [evTrace] at h
    split at h
    · rename_i s1 h1
      split at h
      · rename_i r' hr'
        cases h
        obtain ⟨g1, g2, g3, s', g4, g5⟩ := ih _ _ hr'
        refine ⟨by simp [g1], rfl, fun k o' s2 hk hs => ?_, s', ?_, by simp only [evOps, h1]; exact g5⟩
        · cases k with
          | zero =>
            simp at hk hs
            subst hk hs
            exact ⟨s1, by simpa using g2, h1⟩
          | succ k => simpa using g3 k o' s2 (by simpa using hk) (by simpa using hs)
        · rw [List.getLast?_cons, g4]; rfl
      · cases h
    · cases h
theorem evOps_trace : ∀ (l : List Oper) (s s' : St), evOps P T n callf ops l s = some s' → ∃ r, evTrace P T n callf ops l s = some r := by
  intro l
  induction l with
  | nil => intro s s' h; exact ⟨[s], rfl⟩
  | cons o l ih =>
    intro s s' h
    simp only [evOps] at h
    split at h
    · rename_i s1 h1
      obtain ⟨r, hr⟩ := ih _ _ h
      exact ⟨s :: r, by simp only [evTrace, h1, hr]⟩
    · cases h
theorem evRegion_grows (hg : CallGrows callf) {draw : Bool} {s s' : St} (h : evRegion P T n callf ops draw s = some s') : evOps P T n callf ops ops.toList s = some s' := by
  unfold evRegion at h
  cases draw
  · exact h
  · simp only [cond_true] at h
    split at h
    · exact h
    · split at h
      · rename_i l hl
        cases hb : (loose T ops).all (steady T ops l) <;> rw [hb] at h <;> simp only [cond_false, cond_true] at h
        · cases h
        · obtain ⟨_, _, _, s2, h1, h2⟩ := evTrace_spec _ _ _ hl
          rw [h] at h1; cases h1; exact h2
      · cases h
theorem veq0_eq {x y : Value} (h : veq0 x y = true) : x = y := by
  unfold veq0 at h
  split at h <;> simp_all
  · rename_i a b
    exact ByteArray.ext h
theorem veqs_eq : ∀ (a b : List Value), veqs a b = true → a = b := by
  intro a
  induction a with
  | nil => intro b h; cases b <;> simp [veqs] at h ⊢
  | cons x a ih =>
    intro b h
    cases b with
    | nil => simp [veqs] at h
    | cons y b =>
      simp only [veqs, Bool.and_eq_true] at h
      rw [veq0_eq h.1, ih b h.2]
theorem veq_eq {x y : Value} (h : veq x y = true) : x = y := by
  unfold veq at h
  split at h
  · rename_i a b
    have := veqs_eq _ _ h
    congr 1
    exact Array.ext' this
  · exact veq0_eq h
theorem steady_spec {l : List St} {p : Nat × Nat} {s s1 s2 : St} {o : Oper} (h : steady T ops l p = true) (hs : l[p.1]? = some s) (ho : ops[p.1]? = some o) (h1 : l[p.2]? = some s1) (h2 : l[p.2 + 1]? = some s2)
    (hw : awanted ops s.tm o = true) {x : Operand} {u v : Value} (hop : lookArg o.op = some x) (hu : aeval s.tm x = some u) (hl : alook T o.op u s.H = some v) : alook T o.op u s1.H = some v ∧ alook T o.op u s2.H = some v := by
  unfold steady at h
  simp only [hs, ho, hw, cond_true, hop, hu, hl, h1, h2] at h
  split at h
  · rename_i u1 u2 e1 e2
    simp only [Bool.and_eq_true] at h
    rw [veq_eq h.1] at e1
    rw [veq_eq h.2] at e2
    exact ⟨e1, e2⟩
  · cases h
/-- The states of a region, in the text's order. -/
theorem canon_of (hg : CallGrows callf) {s : St} {l : List St} (hwf : HWf s.H) (hl : evTrace P T n callf ops ops.toList s = some l) (hst : ∀ p ∈ loose T ops, steady T ops l p = true) :
    ∃ (S : Nat → St) (V : Nat → Value), Canon P T callf n ops S V ∧ S 0 = s ∧ ∃ s', l.getLast? = some s' ∧ S ops.size = s' := by
  obtain ⟨h1, h2, h3, s', h4, h5⟩ := evTrace_spec _ _ _ hl
  simp only [Array.length_toList] at h1
  have hin : ∀ k, k ≤ ops.size → ∃ x, l[k]? = some x := fun k hk => ⟨l[k]'(by omega), by simp⟩
  let S : Nat → St := fun k => (l[k]?).getD s
  have hS : ∀ k, k ≤ ops.size → l[k]? = some (S k) := fun k hk => by
    obtain ⟨x, hx⟩ := hin k hk
    show l[k]? = some ((l[k]?).getD s)
    rw [hx]; rfl
  have hstep : ∀ k o, ops[k]? = some o → step1 P T n callf ops o (S k) = some (S (k + 1)) := by
    intro k o ho
    have hk := (Array.getElem?_eq_some_iff.1 ho).1
    obtain ⟨s2, g1, g2⟩ := h3 k o (S k) (by simpa using ho) (hS k (by omega))
    rw [hS (k + 1) (by omega)] at g1
    cases g1
    exact g2
  have hV : ∀ k, ∃ v, ∀ o, ops[k]? = some o → Outc P T callf ops o (S k) v (S (k + 1)).H ∧ dput n (S k).tm o.dst v = some (S (k + 1)).tm := by
    intro k
    by_cases hk : k < ops.size
    · obtain ⟨v, g1, g2⟩ := step1_inv P T callf (hstep k ops[k] (Array.getElem?_eq_getElem hk))
      exact ⟨v, fun o ho => by rw [Array.getElem?_eq_getElem hk] at ho; cases ho; exact ⟨g1, g2⟩⟩
    · exact ⟨undef, fun o ho => absurd (Array.getElem?_eq_some_iff.1 ho).1 hk⟩
  have hgrow : ∀ k, k < ops.size → Grows (S k).H (S (k + 1)).H := fun k hk => step1_grows hg (hstep k ops[k] (Array.getElem?_eq_getElem hk))
  have h0 : S 0 = s := by show (l[0]?).getD s = s; rw [h2]; rfl
  have hgn : ∀ k, k ≤ ops.size → HWf (S k).H := by
    intro k
    induction k with
    | zero => intro _; rw [h0]; exact hwf
    | succ k ih => intro hk; exact (hgrow k (by omega)).2 (ih (by omega))
  refine ⟨S, fun k => Classical.choose (hV k), ⟨fun k o ho => (Classical.choose_spec (hV k) o ho).1, fun k o ho => (Classical.choose_spec (hV k) o ho).2, fun k hk => (hgrow k hk).1, fun k hk hna b hb => ?_, hgn, fun p hp => ?_⟩, h0, s', h4, ?_⟩
  · have ho : ops[k]? = some ops[k] := Array.getElem?_eq_getElem hk
    have hout := (Classical.choose_spec (hV k) ops[k] ho).1
    rcases hout with ⟨_, _, e⟩ | ⟨_, r, H1, e1, e2⟩
    · rw [e]
    · have hH : (S (k + 1)).H = H1 := by
        rcases e2 with ⟨_, e⟩ | ⟨_, _, e⟩ | ⟨f, args, e, _⟩
        · exact e
        · exact e
        · subst e; exact absurd ⟨_, ho, enter_act e1⟩ hna
      rw [hH]
      rcases aop_heap e1 with ⟨e, _⟩ | e | ⟨_, ob, e⟩
      · exact absurd ⟨_, ho, e⟩ hna
      · rw [e]
      · rw [e, Heap.get_push, if_neg (by omega)]
  · obtain ⟨i, j⟩ := p
    have hmem := hp
    unfold loose at hmem
    rw [List.mem_flatMap] at hmem
    obtain ⟨i', hi', hmem⟩ := hmem
    obtain ⟨j', hj', hmem⟩ := List.mem_filterMap.1 hmem
    have hij : i = i' ∧ j = j' := by
      split at hmem
      · revert hmem; generalize i'.blt j' = b1; intro hmem
        cases b1 <;> simp only [cond_false, cond_true] at hmem
        · revert hmem; generalize Nat.testBit _ _ = b2; intro hmem; cases b2 <;> simp only [cond_false, cond_true] at hmem <;> cases hmem; exact ⟨rfl, rfl⟩
        · revert hmem; generalize Nat.testBit _ _ = b2; intro hmem; cases b2 <;> simp only [cond_false, cond_true] at hmem <;> cases hmem; exact ⟨rfl, rfl⟩
      · cases hmem
    obtain ⟨rfl, rfl⟩ := hij
    have hi : i < ops.size := by simpa using hi'
    have hj : j < ops.size := by simpa using hj'
    exact ⟨S i, ops[i], rfl, Array.getElem?_eq_getElem hi, fun hw x u v hop hu hl' => steady_spec (hst _ hp) (hS i (by omega)) (Array.getElem?_eq_getElem hi) (hS j (by omega)) (hS (j + 1) (by omega)) hw hop hu hl'⟩
  · have : l.getLast? = l[ops.size]? := by rw [List.getLast?_eq_getElem?]; congr 1; omega
    rw [this, hS ops.size (Nat.le_refl _)] at h4
    cases h4; rfl
end
end Go.Ev
