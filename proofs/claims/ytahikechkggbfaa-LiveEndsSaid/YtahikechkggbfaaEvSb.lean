/- Walks by hand, in great steps: states of which some slots are known; arguments that lie in memory. -/
import Derived.Test.YtahikechkggbfaaEvSa
namespace Go.Ev
open Go
set_option linter.unusedVariables false
set_option linter.unusedSimpArgs false
/-- A tree that is full, by a function. -/
def tN : Nat → (Nat → Value) → Tr Value
  | 0, _ => .lf
  | f + 1, g => .nd (tN f fun j => g (2 * j + 1)) (some (g 0)) (tN f fun j => g (2 * j + 2))
theorem tN_get : ∀ (f : Nat) (g : Nat → Value) (j : Nat), (tN f g).get j = if j + 1 < 2 ^ f then some (g j) else none := by
  intro f
  induction f with
  | zero => intro g j; cases j <;> simp [tN, Tr.get]
  | succ f ih =>
    intro g j
    cases j with
    | zero =>
      have : 0 + 1 < 2 ^ (f + 1) ∨ f + 1 = 0 := by
        left
        have := Nat.one_lt_two_pow (n := f + 1) (by omega)
        omega
      rw [if_pos (by omega)]; rfl
    | succ k =>
      have e2 : 2 ^ (f + 1) = 2 * 2 ^ f := by rw [Nat.pow_succ]; omega
      show (bif (k % 2).beq 0 then (tN f fun j => g (2 * j + 1)).get (k / 2) else (tN f fun j => g (2 * j + 2)).get (k / 2)) = _
      rw [ih, ih, beq_dec]
      by_cases h : k % 2 = 0
      · have e1 : 2 * (k / 2) + 1 = k + 1 := by omega
        simp only [h, decide_true, cond_true, e1]
        by_cases h2 : k / 2 + 1 < 2 ^ f
        · rw [if_pos h2, if_pos (by omega)]
        · rw [if_neg h2, if_neg (by omega)]
      · have e1 : 2 * (k / 2) + 2 = k + 1 := by omega
        simp only [h, decide_false, cond_false, e1]
        by_cases h2 : k / 2 + 1 < 2 ^ f
        · rw [if_pos h2, if_pos (by omega)]
        · rw [if_neg h2, if_neg (by omega)]
/-- A tree of which some slots are known. -/
def tK (L : List (Nat × Value)) (d : Nat → Value) : Tr Value := tN 12 (ov L d)
def Knows (s : St) (L : List (Nat × Value)) : Prop := ∀ p ∈ L, (s.tm.get p.1).getD undef = p.2
theorem ov_known {s : St} : ∀ {L : List (Nat × Value)}, Knows s L → ∀ i, ov L (fun i => (s.tm.get i).getD undef) i = (s.tm.get i).getD undef := by
  intro L
  induction L with
  | nil => intro _ i; rfl
  | cons p r ih =>
    intro h i
    obtain ⟨j, v⟩ := p
    simp only [ov]
    cases hb : i.beq j
    · exact ih (fun q hq => h q (by simp [hq])) i
    · have := Nat.eq_of_beq_eq_true hb
      subst this
      exact (h (i, v) (by simp)).symm
/-- Against the world at the start: what may be written here was made since. -/
structure FrA (w0 : World) (m : Map) (H : Heap) (w : World) : Prop where
  os : w.os = w0.os
  tape : w.tape = w0.tape
  output : w.output = w0.output
  size : w0.heap.size ≤ w.heap.size
  keep : ∀ c, c < w0.heap.size → w.heap[c]? = w0.heap[c]?
  live : ∀ b L, m b = some L → H.wr b → w0.heap.size ≤ L.c
theorem FrA.next [Bs] {P : Program} {w0 w w' : World} {m m' : Map} {H H' : Heap} (hr : Rep P m H w) (h : FrA w0 m H w) (k : Fr m H w m' H' w') : FrA w0 m' H' w' where
  os := k.os.trans h.os
  tape := k.tape.trans h.tape
  output := k.output.trans h.output
  size := Nat.le_trans h.size k.size
  keep := fun c hc => by
    refine (k.keep c (Nat.lt_of_lt_of_le hc h.size) ?_).trans (h.keep c hc)
    rintro ⟨b, L, h1, h2, rfl⟩
    have := h.live b L h1 h2
    omega
  live := fun b L hb hl => by
    rcases k.live b L hb (Heap.wr_live hl) with ⟨h1, h2⟩ | ⟨_, h2 | h2⟩
    · exact h.live b L h1 (k.wrb b (hr.dom b L h1) hl)
    · obtain ⟨b', L', h3, h4, h5⟩ := h2
      have := h.live b' L' h3 h4
      omega
    · exact Nat.le_trans h.size h2
structure SatA [Bs] (P : Program) (n : Nat) (w0 : World) (s : St) (m : Map) (a : Act) (w : World) : Prop where
  hwf : HWf s.H
  tm : TmRel m s.tm a.tmps
  size : a.tmps.size = n
  rep : Rep P m s.H w
  fr : FrA w0 m s.H w
def TwPost [Bs] (P : Program) (n : Nat) (w0 : World) (Q : Xt → St → Prop) (a : Act) (e : Exit) (a' : Act) (w' : World) : Prop :=
  ∃ x s' m', e = Xt.exit' x ∧ Q x s' ∧ a'.defers = a.defers ∧ SatA P n w0 s' m' a' w'
def Tw [Bs] (P : Program) (n : Nat) (w0 : World) (c : Code) (Q : Xt → St → Prop) (s : St) : Prop :=
  ∀ m a w, SatA P n w0 s m a w → c.wp P (TwPost P n w0 Q a) a w
section
variable {P : Program} {T : Tab} {n : Nat} {w0 : World} {Q : Xt → St → Prop} {s : St} {c c1 c2 : Code}
theorem TwPost.from [Bs] {a a1 : Act} (hd : a1.defers = a.defers) {e : Exit} {a' : Act} {w' : World} (h : TwPost P n w0 Q a1 e a' w') : TwPost P n w0 Q a e a' w' := by
  obtain ⟨x, s', m', h1, h2, h3, h4⟩ := h
  exact ⟨x, s', m', h1, h2, h3.trans hd, h4⟩
theorem Tw.mono [Bs] {Q' : Xt → St → Prop} (h : Tw P n w0 c Q s) (hq : ∀ x s, Q x s → Q' x s) : Tw P n w0 c Q' s := fun m a w hs =>
  wp_mono (h m a w hs) fun e a' w' ⟨x, s', m', h1, h2, h3⟩ => ⟨x, s', m', h1, hq _ _ h2, h3⟩
/-- A piece of the evaluator's. -/
theorem tw_aw [Bs] (hP : ProgOk P T) (hok : codeOk T c = true) (h : Aw P T n c Q s) : Tw P n w0 c Q s := by
  intro m a w hs
  unfold Aw at h
  obtain ⟨k, x, s', he, hq⟩ := h
  refine wp_mono ((code_sound hP k).1 n c s x s' he hok hs.hwf m a w hs.tm hs.size hs.rep) fun e a' w' hp => ?_
  obtain ⟨rfl, m', g1, g2, g3, g4, g5⟩ := hp
  exact ⟨x, s', m', rfl, hq, g3, (evCode_grows _ _ _ _ _ _ he).2 hs.hwf, g1, g2, g4, hs.fr.next hs.rep g5⟩
theorem tw_seq [Bs] (h : Tw P n w0 c1 (Xt.then (Tw P n w0 c2 Q) Q) s) : Tw P n w0 (.seq c1 c2) Q s := by
  intro m a w hs
  refine wp_seq (wp_mono (h m a w hs) fun e a' w' hp => ?_)
  obtain ⟨x, s', m', rfl, hq, hd, hs'⟩ := hp
  cases x with
  | normal =>
    simp only [Xt.then] at hq
    exact wp_mono (hq m' a' w' hs') fun e a2 w2 h2 => h2.from hd
  | ret => simp only [Xt.then] at hq; exact ⟨.ret, s', m', rfl, hq, hd, hs'⟩
  | exit i => simp only [Xt.then] at hq; exact ⟨.exit i, s', m', rfl, hq, hd, hs'⟩
theorem tw_block [Bs] {id : Nat} (h : Tw P n w0 c (Xt.inBlock id Q) s) : Tw P n w0 (.block id c) Q s := by
  intro m a w hs
  refine wp_block (wp_mono (h m a w hs) fun e a' w' hp => ?_)
  obtain ⟨x, s', m', rfl, hq, hrest⟩ := hp
  cases x with
  | normal => simp only [Xt.inBlock] at hq; exact ⟨.normal, s', m', rfl, hq, hrest⟩
  | ret => simp only [Xt.inBlock] at hq; exact ⟨.ret, s', m', rfl, hq, hrest⟩
  | exit i =>
    simp only [Xt.inBlock] at hq
    show (if i = id then _ else _)
    cases hb : i.beq id
    · rw [hb] at hq
      have hne : ¬ i = id := fun e => by subst e; simp at hb
      rw [if_neg hne]
      exact ⟨.exit i, s', m', rfl, hq, hrest⟩
    · rw [hb] at hq
      rw [if_pos (Nat.eq_of_beq_eq_true hb)]
      exact ⟨.normal, s', m', rfl, hq, hrest⟩
theorem tw_loop [Bs] (I : Nat → St → Prop) (m : Nat) (h0 : I m s) (round : ∀ m s, I m s → Tw P n w0 c (Xt.then (fun s' => ∃ m', m' < m ∧ I m' s') Q) s) : Tw P n w0 (.loop c) Q s := by
  have key : ∀ (k : Nat) (s : St) (m0 : Nat), m0 ≤ k → I m0 s → ∀ mm a w, SatA P n w0 s mm a w → Code.rounds P c (TwPost P n w0 Q a) (k + 1) a w := by
    intro k
    induction k with
    | zero =>
      intro s m0 hm hI mm a w hs
      rw [rounds_succ]
      refine wp_mono (round m0 s hI mm a w hs) fun e a' w' hp => ?_
      obtain ⟨x, s', m', rfl, hq, hd, hs'⟩ := hp
      cases x with
      | normal => simp only [Xt.then] at hq; obtain ⟨m1, h1, _⟩ := hq; omega
      | ret => simp only [Xt.then] at hq; exact ⟨.ret, s', m', rfl, hq, hd, hs'⟩
      | exit i => simp only [Xt.then] at hq; exact ⟨.exit i, s', m', rfl, hq, hd, hs'⟩
    | succ k ih =>
      intro s m0 hm hI mm a w hs
      rw [rounds_succ]
      refine wp_mono (round m0 s hI mm a w hs) fun e a' w' hp => ?_
      obtain ⟨x, s', m', rfl, hq, hd, hs'⟩ := hp
      cases x with
      | normal =>
        simp only [Xt.then] at hq
        obtain ⟨m1, h1, h2⟩ := hq
        exact rounds_mono (fun e a2 w2 h2 => h2.from hd) (k + 1) a' w' (ih s' m1 (by omega) h2 m' a' w' hs')
      | ret => simp only [Xt.then] at hq; exact ⟨.ret, s', m', rfl, hq, hd, hs'⟩
      | exit i => simp only [Xt.then] at hq; exact ⟨.exit i, s', m', rfl, hq, hd, hs'⟩
  exact fun mm a w hs => wp_loop_rounds (m + 1) (key m s m (Nat.le_refl _) h0 mm a w hs)
theorem tw_cond [Bs] {x : Operand} {t : Bool} (hx : aeval s.tm x = some (.bool t)) (h : Tw P n w0 (bif t then c1 else c2) Q s) : Tw P n w0 (.cond x c1 c2) Q s := by
  intro m a w hs
  have hv := (hs.tm.op [x] x (by simp) _ hx).plain_eq rfl
  refine wp_cond hv ?_
  cases t
  · exact h m a w hs
  · exact h m a w hs
theorem tw_skip [Bs] (h : Q .normal s) : Tw P n w0 .skip Q s := fun m a w hs => wp_skip ⟨.normal, s, m, rfl, h, rfl, hs⟩
theorem tw_ret [Bs] (h : Q .ret s) : Tw P n w0 .ret Q s := fun m a w hs => wp_ret ⟨.ret, s, m, rfl, h, rfl, hs⟩
theorem tw_exit [Bs] {i : Nat} (h : Q (.exit i) s) : Tw P n w0 (.exit i) Q s := fun m a w hs => wp_exit ⟨.exit i, s, m, rfl, h, rfl, hs⟩
/-- A state by what is known of it. -/
theorem tw_form [Bs] (L : List (Nat × Value)) (hn : n + 1 < 4096) (h : Knows s L) (hq : ∀ d, Tw P n w0 c Q ⟨tK L d, s.H⟩) : Tw P n w0 c Q s := by
  intro m a w hs
  refine hq (fun i => (s.tm.get i).getD undef) m a w ⟨hs.hwf, fun t => ?_, hs.size, hs.rep, hs.fr⟩
  unfold tK
  rw [tN_get]
  by_cases ht : t + 1 < 2 ^ 12
  · rw [if_pos ht]
    show VR m (ov L _ t) _
    rw [ov_known h]
    exact hs.tm t
  · rw [if_neg ht]
    have h5 : a.tmps.getD t undef = undef := by
      have := hs.size
      simp [Array.getD]
      intro h6; omega
    rw [h5]
    exact VR.of_closed rfl
/-- A call, by a walk of its body. -/
def RetIs (T : Tab) (rs : Array ResultVar) (R : Value → Heap → Prop) : Xt → St → Prop
  | .normal, s => ∃ v, aresults T s.tm s.H rs = some v ∧ R v s.H
  | .ret, s => ∃ v, aresults T s.tm s.H rs = some v ∧ R v s.H
  | _, _ => False
theorem calls_of_tw [Bs] [Bs] {f : FuncId} {fn : Func} (hP : ProgOk P T) (hf : T.fn f = some fn) (hb : fn.body = some c) {args args' : Array Value} {m : Map} {H : Heap} {w : World} (hwf : HWf H) (hr : Rep P m H w) (hro : ∀ b, ¬ H.wr b)
    (hargs : VRs m args.toList args'.toList) (h : ∀ w0, Tw P (args.size + (fn.ntmps - args.size)) w0 c (RetIs T fn.results fun v _ => v = .bool true) ⟨initTm 0 args, H⟩) :
    Calls P f args' w fun e w' => e = .returned (.bool true) ∧ Quiet w w' := by
  obtain ⟨h1, h2, h3⟩ := hP.fns.fn f fn hf
  have hs : args.size = args'.size := hargs.arr.1
  have hsat : SatA P (args.size + (fn.ntmps - args.size)) w ⟨initTm 0 args, H⟩ m { tmps := args' ++ Array.replicate (fn.ntmps - args'.size) undef, defers := [] } w :=
    ⟨hwf, init_rel hargs _, by simp [hs], hr, ⟨rfl, rfl, rfl, Nat.le_refl _, fun _ _ => rfl, fun b L _ hw => absurd hw (hro b)⟩⟩
  refine calls_of_wp h1 hb (wp_mono (h w _ _ _ hsat) fun e a' w' hp => ?_)
  obtain ⟨x, s', m', rfl, hq, hd, hs⟩ := hp
  cases x with
  | normal =>
    obtain ⟨v, hv, rfl⟩ := hq
    obtain ⟨v', k1, k2⟩ := results_sound hP.tab hs.tm hs.rep hv
    rw [k2.plain_eq rfl] at k1
    exact ⟨hd, _, k1, rfl, hs.fr.os, hs.fr.tape, hs.fr.output, hs.fr.size, hs.fr.keep⟩
  | ret =>
    obtain ⟨v, hv, rfl⟩ := hq
    obtain ⟨v', k1, k2⟩ := results_sound hP.tab hs.tm hs.rep hv
    rw [k2.plain_eq rfl] at k1
    exact ⟨hd, _, k1, rfl, hs.fr.os, hs.fr.tape, hs.fr.output, hs.fr.size, hs.fr.keep⟩
  | exit i => exact hq.elim
/-! Steps within a region -/
variable {ops : Array Oper} {K : St → Prop}
def outS (o : Option St) : St := match o with | some s => s | none => ⟨.lf, .lf, 0⟩
theorem some_outS {o : Option St} (h : o.isSome = true) : o = some (outS o) := by cases o <;> first | rfl | cases h
theorem aops_go {l : List Oper} (j k : Nat) (h : (evOps P T n (evCall P T k) ops (l.take j) s).isSome = true) (hk : AOps P T n ops (l.drop j) K (outS (evOps P T n (evCall P T k) ops (l.take j) s))) : AOps P T n ops l K s :=
  aops_run j k (some_outS h) hk
theorem aopsC_go {l : List Oper} (j : Nat) (h : (runC P T n ops (l.take j) s).isSome = true) (hk : AOpsC P T n ops (l.drop j) K (outS (runC P T n ops (l.take j) s))) : AOpsC P T n ops l K s :=
  aopsC_run j (some_outS h) hk
theorem put_same : ∀ (f : Nat) (t : Tr Value) (i : Nat) (v : Value), i < f → t.get i = some v → Tr.putF f t i (some v) = t := by
  intro f
  induction f with
  | zero => intro t i v h; omega
  | succ f ih =>
    intro t i v h hg
    cases t with
    | lf => cases i <;> simp [Tr.get] at hg
    | nd l x r =>
      cases i with
      | zero => simp only [Tr.get] at hg; subst hg; rfl
      | succ k =>
        simp only [Tr.get] at hg
        simp only [Tr.putF, Tr.left, Tr.right, Tr.top]
        cases hb : (k % 2).beq 0
        · rw [hb] at hg; simp only [cond_false] at hg ⊢; rw [ih _ _ _ (by omega) hg]
        · rw [hb] at hg; simp only [cond_true] at hg ⊢; rw [ih _ _ _ (by omega) hg]
theorem st_see (t : Nat) (v : Value) (h : s.tm.get t = some v) : s = ⟨s.tm.put t (some v), s.H⟩ := by
  unfold Tr.put
  rw [put_same _ _ _ _ (by omega) h]
/-- A slot's value in other words. -/
theorem aops_see {l : List Oper} (t : Nat) (v : Value) (h : s.tm.get t = some v) (hk : AOps P T n ops l K ⟨s.tm.put t (some v), s.H⟩) : AOps P T n ops l K s := by
  rw [st_see t v h]; exact hk
theorem aopsC_see {l : List Oper} (t : Nat) (v : Value) (h : s.tm.get t = some v) (hk : AOpsC P T n ops l K ⟨s.tm.put t (some v), s.H⟩) : AOpsC P T n ops l K s := by
  rw [st_see t v h]; exact hk
/-- An operation whose value is known by a fact. -/
theorem aops_val {l : List Oper} (t : Nat) (v : Value) (H' : Heap) (he : l.isEmpty = false) (hw : awanted ops s.tm (hdO l) = true) (hd : dput n s.tm (hdO l).dst v = some (s.tm.put t (some v)))
    (ha : aop P T s.tm (hdO l) s.H = some (.val v, H')) (hk : AOps P T n ops l.tail K ⟨s.tm.put t (some v), H'⟩) : AOps P T n ops l K s := aops_one he hw ha hd hk
theorem aops_ask {l : List Oper} (t : Nat) (v : Value) (f : FuncId) (args : Array Value) (he : l.isEmpty = false) (hw : awanted ops s.tm (hdO l) = true) (hd : dput n s.tm (hdO l).dst v = some (s.tm.put t (some v)))
    (ha : aop P T s.tm (hdO l) s.H = some (.enter f args, s.H)) (ho : T.orc f args.toList = some v) (hk : AOps P T n ops l.tail K ⟨s.tm.put t (some v), s.H⟩) : AOps P T n ops l K s :=
  aops_ent he hw ha (acall_orc ho ⟨_, hd, hk⟩)
theorem aops_call {l : List Oper} (t : Nat) (f : FuncId) (args : Array Value) {R : Value → Heap → Prop} (he : l.isEmpty = false) (hw : awanted ops s.tm (hdO l) = true) (hd : ∀ v, dput n s.tm (hdO l).dst v = some (s.tm.put t (some v)))
    (ha : aop P T s.tm (hdO l) s.H = some (.enter f args, s.H)) (hc : ACall P T f args s.H R) (hk : ∀ v H', R v H' → AOps P T n ops l.tail K ⟨s.tm.put t (some v), H'⟩) : AOps P T n ops l K s :=
  aops_ent he hw ha (hc.mono fun v H' h => ⟨_, hd v, hk v H' h⟩)
theorem aopsC_get {l : List Oper} (t : Nat) (v : Value) (he : l.isEmpty = false) (hw : awanted ops s.tm (hdO l) = true) (hd : dput n s.tm (hdO l).dst v = some (s.tm.put t (some v)))
    (hv : veq v v = true) (ha : aop P T s.tm (hdO l) s.H = some (.val v, s.H)) (hk : AOpsC P T n ops l.tail K ⟨s.tm.put t (some v), s.H⟩) (hc : isConv (hdO l).op = false := by kernel_rfl) : AOpsC P T n ops l K s := aopsC_one he hw ha hv hd hk hc
theorem aopsC_ask {l : List Oper} (t : Nat) (v : Value) (f : FuncId) (args : Array Value) (he : l.isEmpty = false) (hw : awanted ops s.tm (hdO l) = true) (hd : dput n s.tm (hdO l).dst v = some (s.tm.put t (some v)))
    (ha : aop P T s.tm (hdO l) s.H = some (.enter f args, s.H)) (ho : T.orc f args.toList = some v) (hk : AOpsC P T n ops l.tail K ⟨s.tm.put t (some v), s.H⟩) : AOpsC P T n ops l K s := aopsC_ent he hw ha ho hd hk
end
end Go.Ev
