/- What the evaluator comes to, the model comes to: code and calls. -/
import Derived.Test.YthmcpmdohmfeiaaGreatDoorEvR
namespace Go.Ev
open Go
set_option linter.unusedVariables false
set_option linter.unusedSimpArgs false
def opOk (T : Tab) (o : Oper) : Bool := match o.op with | .box e _ => (T.size e).isSome | _ => true
def codeOk (T : Tab) : Code → Bool
  | .region _ ops draw => ops.toList.all (opOk T) && (!draw || drawOk T ops)
  | .seq a b => codeOk T a && codeOk T b
  | .cond _ a b => codeOk T a && codeOk T b
  | .block _ c => codeOk T c
  | .loop c => codeOk T c
  | .scope c => codeOk T c
  | _ => true
/-- Nothing that was there has turned. -/
structure Quiet (w w' : World) : Prop where
  os : w'.os = w.os
  tape : w'.tape = w.tape
  output : w'.output = w.output
  size : w.heap.size ≤ w'.heap.size
  block : ∀ k, k < w.heap.size → w'.heap[k]? = w.heap[k]?
structure ProgOk [Bs] (P : Program) (T : Tab) : Prop where
  tab : TabOk P T
  fns : FnsOk P T
  code : ∀ f fn c, T.fn f = some fn → fn.body = some c → codeOk T c = true
  mixed : P.follows .mixedOrders = true
  orc : ∀ f args v, T.orc f args = some v → closed v = true ∧ args.all closed = true ∧ ∀ w : World, OnBs w → Calls P f args.toArray w fun e w' => e = .returned v ∧ Quiet w w'
  mor : ∀ f (args : Array Value) H v, T.mor f args.toList H = some v → closed v = true ∧ ∀ (m : Map) (w : World) (args' : Array Value), HWf H → Rep P m H w → VRs m args.toList args'.toList → Calls P f args' w fun e w' => e = .returned v ∧ Quiet w w'
def Xt.exit' : Xt → Exit
  | .normal => .normal
  | .ret => .ret
  | .exit i => .exit i
/-- Behind a piece of code. -/
def Post [Bs] (P : Program) (n : Nat) (m : Map) (H : Heap) (w : World) (a : Act) (x : Xt) (s' : St) (e : Exit) (a' : Act) (w' : World) : Prop :=
  e = x.exit' ∧ ∃ m', TmRel m' s'.tm a'.tmps ∧ a'.tmps.size = n ∧ a'.defers = a.defers ∧ Rep P m' s'.H w' ∧ Fr m H w m' s'.H w'
theorem Post.from [Bs] {P : Program} {n : Nat} {m m1 : Map} {H H1 : Heap} {w w1 : World} {a a1 : Act} {x : Xt} {s' : St} (hr : Rep P m H w) (hf : Fr m H w m1 H1 w1) (hd : a1.defers = a.defers) {e : Exit} {a' : Act} {w' : World}
    (h : Post P n m1 H1 w1 a1 x s' e a' w') : Post P n m H w a x s' e a' w' := by
  obtain ⟨h1, m', h2, h3, h4, h5, h6⟩ := h
  exact ⟨h1, m', h2, h3, h4.trans hd, h5, hf.trans hr h6⟩
theorem rounds_mono {P : Program} {c : Code} {Q Q' : Exit → Act → World → Prop} (hq : ∀ e a w, Q e a w → Q' e a w) : ∀ (k : Nat) (a : Act) (w : World), Code.rounds P c Q k a w → Code.rounds P c Q' k a w := by
  intro k
  induction k with
  | zero => intro a w h; exact h
  | succ k ih =>
    intro a w h
    rw [rounds_succ] at h ⊢
    refine wp_mono h fun e a' w' he => ?_
    cases e <;> first | exact ih _ _ he | exact hq _ _ _ he
section
variable {P : Program} {T : Tab} {callf : FuncId → Array Value → Heap → Option (Value × Heap)} {n : Nat} {ops : Array Oper}
theorem region_sound [Bs] (hP : ProgOk P T) (hC : CallOk P callf) (hg : CallGrows callf) {id : Nat} {draw : Bool} {s s' : St} (h : evRegion P T n callf ops draw s = some s') (hok : codeOk T (.region id ops draw) = true) (hwf : HWf s.H)
    {m : Map} {a : Act} {w : World} (ht : TmRel m s.tm a.tmps) (hn : a.tmps.size = n) (hr : Rep P m s.H w) : (Code.region id ops draw).wp P (Post P n m s.H w a .normal s') a w := by
  simp only [codeOk, Bool.and_eq_true, List.all_eq_true] at hok
  obtain ⟨hops, hdr⟩ := hok
  have hbox : ∀ o ∈ ops, boxOk P o := by
    intro o ho e x hop
    have := hops o (by simpa using ho)
    unfold opOk at this
    rw [hop] at this
    obtain ⟨k, hk⟩ := Option.isSome_iff_exists.1 this
    obtain ⟨i, hi, _⟩ := hP.tab.size e k hk
    exact ⟨i, hi⟩
  have hseq := evRegion_grows hg h
  cases draw
  · exact wp_region_list (evOps_sound hP.tab hP.fns hC hg ops.toList s s' m a w (fun o ho => hbox o (by simpa using ho)) hseq hwf ht hn hr
      (fun a' w' m' k1 k2 k3 k4 k5 => ⟨rfl, m', k1, k2, k3, k4, k5⟩))
  · have hD := drawOk_spec (by simpa using hdr)
    obtain ⟨l, hl⟩ := evOps_trace _ _ _ hseq
    have hst : ∀ p ∈ loose T ops, steady T ops l p = true := by
      unfold evRegion at h
      simp only [cond_true] at h
      split at h
      · rename_i he; rw [he]; intro p hp; cases hp
      · rw [hl] at h
        simp only at h
        cases hb : (loose T ops).all (steady T ops l)
        · rw [hb] at h; cases h
        · exact List.all_eq_true.1 hb
    obtain ⟨S, V, hCan, hS0, s2, hlast, hSN⟩ := canon_of hg hwf hl hst
    have hs2 : s2 = s' := by
      obtain ⟨_, _, _, s3, g1, g2⟩ := evTrace_spec _ _ _ hl
      rw [hlast] at g1; cases g1
      rw [hseq] at g2; cases g2; rfl
    subst hs2
    subst hS0
    have hd0 : ∀ b K, m b = some K → b < (S 0).H.n := hr.dom
    have hb0 : Bas m (S 0).H { w with drawn := w.drawn + 1 } := ⟨⟨hr.bas.ksz, hr.bas.low⟩, hr.bas.own⟩
    refine wp_region_any hP.mixed (draw_sound (m0 := m) (a0 := a) (w0 := { w with drawn := w.drawn + 1 }) hP.tab hP.fns hC hCan hD hd0 hb0 hbox ?_ ops.size (Array.replicate ops.size false) 0 m a _ ?_ ?_)
    · intro L m' a' w' hI hall
      refine ⟨rfl, m', ?_, hI.size, hI.defers, ?_, Fr.drew (w.drawn + 1) ?_⟩
      · intro t
        obtain ⟨e1, e2⟩ := hCan.tms hD t ops.size (Nat.le_refl _)
        rw [← hSN]
        by_cases hex : ∃ (i : Nat) (oi : Oper), ops[i]? = some oi ∧ oi.dst = some t
        · obtain ⟨i, oi, hi, hd⟩ := hex
          have hlt := (Array.getElem?_eq_some_iff.1 hi).1
          rw [e1 i oi hlt hi hd]
          exact (hI.tmv i oi t hi (hall i hlt) hd).mono (cut_le _ _)
        · rw [e2 fun i oi _ hi hd => hex ⟨i, oi, hi, hd⟩]
          exact (hI.tm0 t fun i oi hi _ hd => hex ⟨i, oi, hi, hd⟩).mono hI.le
      · rw [← hSN]
        refine ⟨⟨fun b K hb => ?_, fun b K o hb ho => ?_, fun b1 b2 K1 K2 h1 h2 h3 h4 hne => ?_⟩, ⟨hI.onb hb0, fun b K hb hw => ?_⟩⟩
        rotate_left 3
        · obtain ⟨o1, k1, k2⟩ := hw
          exact hI.own' hb0 hd0 hb (hCan.gn ops.size (Nat.le_refl _) b (by rw [k1]; rfl)) k1 k2
        · rcases hI.dom b K hb with h1 | ⟨i, h1, _, _, h4⟩
          · exact Nat.lt_of_lt_of_le (hd0 b K h1) (hCan.monoLe _ 0 (by omega) (Nat.le_refl _))
          · exact Nat.lt_of_lt_of_le h4 (hCan.monoLe _ (i + 1) (by omega) (Nat.le_refl _))
        · have hlt := hCan.gn ops.size (Nat.le_refl _) b (by rw [ho]; rfl)
          exact (hI.blk b K o hb hlt ho).mono (cut_le _ _) rfl
        · obtain ⟨o1, k1, k2⟩ := h3
          obtain ⟨o2, k3⟩ := Option.isSome_iff_exists.1 h4
          have hl1 := hCan.gn ops.size (Nat.le_refl _) b1 (by rw [k1]; rfl)
          have hl2 := hCan.gn ops.size (Nat.le_refl _) b2 (by rw [k3]; rfl)
          exact hI.inj b1 b2 K1 K2 o1 o2 h1 h2 hne (.inl ⟨hl1, k1⟩) k2 (.inl ⟨hl2, k3⟩)
      · rw [← hSN]
        refine ⟨hI.os, hI.tape, hI.output, hI.wsize, hI.keep, hI.le, hCan.monoLe _ 0 (by omega) (Nat.le_refl _), fun b K hb => ?_, fun b K hb hl' => ?_, hI.wr0, hI.lv0, hI.akeep⟩
        · rcases hI.dom b K hb with h1 | ⟨i, h1, _, h3, _⟩
          · exact .inl h1
          · exact .inr (Nat.le_trans (hCan.monoLe i 0 (by omega) (by omega)) h3)
        · obtain ⟨o, ho⟩ := Option.isSome_iff_exists.1 hl'
          exact hI.live b K o hb (.inl ⟨hCan.gn ops.size (Nat.le_refl _) b hl', ho⟩)
    · have := List.countP_le_length (p := fun i => !(Array.replicate ops.size false).getD i false) (l := List.range ops.size)
      simpa using this
    · have hfalse : ∀ i, (Array.replicate ops.size false).getD i false = false := by
        intro i
        simp only [Array.getD_eq_getD_getElem?, Array.getElem?_replicate]
        split <;> rfl
      have hcutn : m.le (cut m (S 0).H.n) := fun b K hb => cut_mk (hd0 b K hb) hb
      have hr' := hr.drew (w.drawn + 1)
      have hcur : ∀ b K o, m b = some K → Cur S ops.size 0 b o → (S 0).H.get b = some o := by
        intro b K o hb hc
        rcases hc with ⟨_, h2⟩ | ⟨h1, _⟩
        · exact h2
        · have := hd0 b K hb; omega
      exact {
        closed := fun j o _ hl' => by rw [hfalse] at hl'; cases hl'
        sizeL := by simp
        front := ⟨by omega, fun q hq => by omega, fun q _ _ => hfalse q⟩
        le := Map.le_refl m
        dom := fun b K hb => .inl hb
        size := hn
        defers := rfl
        tmv := fun i oi d _ hl' => by rw [hfalse] at hl'; cases hl'
        tm0 := fun t _ => ht t
        blk := fun b K ob hb hlt ho => (hr'.blk b K ob hb ho).mono hcutn rfl
        blk2 := fun i b K ob _ _ hl' => by rw [hfalse] at hl'; cases hl'
        late := fun i hi => by omega
        inj := fun b1 b2 K1 K2 o1 o2 h1 h2 h3 h4 h5 h6 => hr'.inj b1 b2 K1 K2 h1 h2 ⟨o1, hcur _ _ _ h1 h4, h5⟩ (by rw [hcur _ _ _ h2 h6]; rfl) h3
        wr0 := fun _ _ h => h
        lv0 := fun _ _ h => h
        os := rfl, tape := rfl, output := rfl
        wsize := Nat.le_refl _
        keep := fun _ _ _ => rfl
        live := fun b K ob hb hc => .inl ⟨hb, by rw [hcur _ _ _ hb hc]; rfl⟩
        akeep := fun _ _ _ => rfl }
end
section
variable {P : Program} {T : Tab}
theorem initGo_get : ∀ (l : List Value) (k : Nat) (t : Tr Value) (i : Nat), (initTm.go l k t).get i = if k ≤ i ∧ i < k + l.length then l[i - k]? else t.get i := by
  intro l
  induction l with
  | nil => intro k t i; rw [initTm.go, if_neg (by simp only [List.length_nil]; omega)]
  | cons v l ih =>
    intro k t i
    rw [initTm.go, ih, Tr.get_put]
    by_cases h : k + 1 ≤ i ∧ i < k + 1 + l.length
    · rw [if_pos h, if_pos (by simp; omega)]
      have : i - k = (i - (k + 1)) + 1 := by omega
      rw [this]; simp
    · rw [if_neg h]
      by_cases e : i = k
      · subst e; rw [if_pos rfl, if_pos (by simp)]; simp
      · rw [if_neg e, if_neg (by simp at *; omega)]
theorem init_rel {m : Map} {args args' : Array Value} (h : VRs m args.toList args'.toList) (k : Nat) : TmRel m (initTm 0 args) (args' ++ Array.replicate k undef) := by
  intro t
  unfold initTm
  rw [initGo_get]
  have hs : args.size = args'.size := h.arr.1
  simp only [Nat.zero_le, true_and, Nat.zero_add, Array.length_toList, Nat.sub_zero, Array.getElem?_toList, Array.getD_eq_getD_getElem?]
  by_cases ht : t < args.size
  · rw [if_pos ht, Array.getElem?_append_left (by omega), Array.getElem?_eq_getElem ht, Array.getElem?_eq_getElem (by omega : t < args'.size)]
    exact h.arr.2 t ht (by omega)
  · rw [if_neg ht, Array.getElem?_append_right (by omega), Array.getElem?_replicate]
    have : (Tr.lf : Tr Value).get t = none := by cases t <;> rfl
    rw [this]
    split <;> exact VR.of_closed rfl
theorem results_sound [Bs] (hT : TabOk P T) {m : Map} {H : Heap} {w : World} {tm : Tr Value} {arr : Array Value} (ht : TmRel m tm arr) (hr : Rep P m H w) {fn : Func} {v : Value} (h : aresults T tm H fn.results = some v) :
    ∃ v', (results fn arr).run P w = .ok v' w ∧ VR m v v' := by
  have key : ∀ (l : List ResultVar) (vs : List Value), results1 T tm H l = some vs → ∀ g : ResultVar → Sem Value, (∀ t, g (.tmp t) = pure (arr.getD t undef)) → (∀ a t, g (.cell a t) = (do loadVar t (← asAddr (arr.getD a undef)))) →
      ∃ vs', (l.mapM g).run P w = .ok vs' w ∧ VRs m vs vs' := by
    intro l
    induction l with
    | nil => intro vs h g _ _; simp only [results1] at h; cases h; exact ⟨[], by simp, VRs.nil⟩
    | cons x l ih =>
      intro vs h g g1 g2
      cases x with
      | tmp t =>
        simp only [results1] at h
        split at h
        · rename_i l' hl
          cases h
          obtain ⟨vs', k1, k2⟩ := ih _ hl g g1 g2
          exact ⟨arr.getD t undef :: vs', by simp only [List.mapM_cons, g1, Sem.run_bind, Sem.run_pure, Result.andThen_ok, k1], VRs.cons (ht t) k2⟩
        · cases h
      | cell a t =>
        simp only [results1] at h
        split at h
        · rename_i u l' hu hl
          cases h
          obtain ⟨vs', k1, k2⟩ := ih _ hl g g1 g2
          obtain ⟨v', k3, k4⟩ := aload_sound hT hu hr (ht a)
          have hptr : ∃ ad, arr.getD a undef = .pointer (some ad) := by
            have hv := ht a
            unfold aload at hu
            split at hu
            · rename_i b off he
              rw [he] at hv
              generalize arr.getD a undef = y at hv
              cases hv with
              | same => exact ⟨_, rfl⟩
              | ptr => exact ⟨_, rfl⟩
            · cases hu
          obtain ⟨ad, had⟩ := hptr
          rw [had] at k3
          have k5 : (loadVar t ad).run P w = .ok v' w := by simpa [Instr.loadAt, Instr.sureAddr] using k3
          exact ⟨v' :: vs', by simp only [List.mapM_cons, g2, had, asAddr, Sem.run_bind, Sem.run_pure, Result.andThen_ok, k5, k1], VRs.cons k4 k2⟩
        · cases h
  unfold aresults at h
  have hmain : ∀ vs, results1 T tm H fn.results.toList = some vs → ∃ vs', VRs m vs vs' ∧ (results fn arr).run P w = .ok (if h : vs'.toArray.size = 1 then vs'.toArray[0] else .tuple vs'.toArray) w := by
    intro vs hvs
    have hg : ∀ g : ResultVar → Sem Value, (∀ t, g (.tmp t) = pure (arr.getD t undef)) → (∀ a t, g (.cell a t) = (do loadVar t (← asAddr (arr.getD a undef)))) →
        ∃ vs', VRs m vs vs' ∧ ((do let vs ← fn.results.mapM g; pure (if h : vs.size = 1 then vs[0] else .tuple vs)) : Sem Value).run P w = .ok (if h : vs'.toArray.size = 1 then vs'.toArray[0] else .tuple vs'.toArray) w := by
      intro g g1 g2
      obtain ⟨vs', k1, k2⟩ := key _ _ hvs g g1 g2
      refine ⟨vs', k2, ?_⟩
      rw [Array.mapM_eq_mapM_toList]
      simp only [map_eq_pure_bind, Sem.run_bind, k1, Result.andThen_ok, Sem.run_pure]
    exact hg _ (fun _ => rfl) (fun _ _ => rfl)
  split at h
  · rename_i u hvs
    cases h
    obtain ⟨vs', k1, k2⟩ := hmain _ hvs
    obtain ⟨y, hy, hv⟩ := k1.2 0 _ rfl
    have hl : vs'.length = 1 := by rw [← k1.1]; rfl
    refine ⟨y, ?_, hv⟩
    rw [k2, dif_pos (by simpa using hl)]
    have : vs'.toArray[0]'(by simp [hl]) = y := by
      have := List.getElem?_eq_some_iff.1 hy
      simpa using this.2
    rw [this]
  · rename_i l hne hvs
    cases h
    obtain ⟨vs', k1, k2⟩ := hmain _ hvs
    refine ⟨.tuple vs'.toArray, ?_, ?_⟩
    · rw [k2, dif_neg]
      intro hs
      have hl : l.length = 1 := by rw [k1.1]; simpa using hs
      match l, hl with
      | [u], _ => exact hne u rfl
    · have : VRs m l.toArray.toList vs'.toArray.toList := by simpa using k1
      exact .tuple this.arr.1 this.arr.2
  · cases h
/-- The evaluator's memory only grows. -/
theorem evCode_grows : ∀ (k n : Nat) (c : Code) (s : St) (x : Xt) (s' : St), evCode P T k n c s = some (x, s') → Grows s.H s'.H := by
  intro k
  induction k with
  | zero => intro n c s x s' h; simp [evCode] at h
  | succ k ih =>
    intro n c s x s' h
    cases c <;> simp only [evCode] at h
    case skip => cases h; exact Grows.refl _
    case label => cases h; exact Grows.refl _
    case ret => cases h; exact Grows.refl _
    case exit => cases h; exact Grows.refl _
    case region id ops draw =>
      split at h
      · rename_i s1 h1
        cases h
        refine evOps_grows ?_ _ _ _ (evRegion_grows ?_ h1)
        all_goals
          intro f args H v H' hc
          simp only at hc
          split at hc
          · cases hc; exact Grows.refl _
          split at hc
          · split at hc
            · split at hc
              · rename_i he
                split at hc
                · cases hc; exact ih _ _ _ _ _ he
                · cases hc
              · rename_i he
                split at hc
                · cases hc; exact ih _ _ _ _ _ he
                · cases hc
              · cases hc
            · cases hc
          · split at hc
            · cases hc; exact Grows.refl _
            · cases hc
      · cases h
    case seq a b =>
      split at h
      · rename_i s1 h1
        exact (ih _ _ _ _ _ h1).trans (ih _ _ _ _ _ h)
      · exact ih _ _ _ _ _ h
    case cond c a b =>
      split at h
      · exact ih _ _ _ _ _ h
      · cases h
    case block id c =>
      split at h
      · rename_i i s1 h1
        cases hb : i.beq id <;> rw [hb] at h <;> simp only [cond_false, cond_true] at h <;> cases h <;> exact ih _ _ _ _ _ h1
      · exact ih _ _ _ _ _ h
    case loop c =>
      split at h
      · rename_i s1 h1
        exact (ih _ _ _ _ _ h1).trans (ih _ _ _ _ _ h)
      · exact ih _ _ _ _ _ h
    case scope c => exact ih _ _ _ _ _ h
    all_goals cases h
end
end Go.Ev
