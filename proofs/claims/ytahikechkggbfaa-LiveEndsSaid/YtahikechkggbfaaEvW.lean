/- The evaluator in pieces: closed sentences, run a piece at a time; between the pieces what is not asked for any more is let go. -/
import Derived.Test.YtahikechkggbfaaEvV
namespace Go.Ev
open Go
set_option linter.unusedVariables false
set_option linter.unusedSimpArgs false
/-- Against the world at the start: all that is in use here was made since. -/
structure FrC (w0 : World) (m : Map) (H : Heap) (w : World) : Prop where
  os : w.os = w0.os
  tape : w.tape = w0.tape
  output : w.output = w0.output
  size : w0.heap.size ≤ w.heap.size
  keep : ∀ c, c < w0.heap.size → w.heap[c]? = w0.heap[c]?
  live : ∀ b L, m b = some L → (H.get b).isSome → w0.heap.size ≤ L.c
theorem FrC.next {w0 w w' : World} {m m' : Map} {H H' : Heap} (h : FrC w0 m H w) (k : Fr m H w m' H' w') : FrC w0 m' H' w' where
  os := k.os.trans h.os
  tape := k.tape.trans h.tape
  output := k.output.trans h.output
  size := Nat.le_trans h.size k.size
  keep := fun c hc => by
    refine (k.keep c (Nat.lt_of_lt_of_le hc h.size) ?_).trans (h.keep c hc)
    rintro ⟨b, L, h1, h2, rfl⟩
    have := h.live b L h1 (Heap.wr_live h2)
    omega
  live := fun b L hb hl => by
    rcases k.live b L hb hl with ⟨h1, h2⟩ | ⟨_, h2 | h2⟩
    · exact h.live b L h1 h2
    · obtain ⟨b', L', h3, h4, h5⟩ := h2
      have := h.live b' L' h3 (Heap.wr_live h4)
      omega
    · exact Nat.le_trans h.size h2
/-- A state here stands for one there. -/
structure Sat [Bs] (P : Program) (n : Nat) (w0 : World) (s : St) (m : Map) (a : Act) (w : World) : Prop where
  hwf : HWf s.H
  tm : TmRel m s.tm a.tmps
  size : a.tmps.size = n
  rep : Rep P m s.H w
  fr : FrC w0 m s.H w
def SwPost [Bs] (P : Program) (n : Nat) (w0 : World) (Q : Xt → St → Prop) (a : Act) (e : Exit) (a' : Act) (w' : World) : Prop :=
  ∃ x s' m', e = Xt.exit' x ∧ Q x s' ∧ a'.defers = a.defers ∧ Sat P n w0 s' m' a' w'
def Sw [Bs] (P : Program) (n : Nat) (w0 : World) (c : Code) (Q : Xt → St → Prop) (s : St) : Prop :=
  ∀ m a w, Sat P n w0 s m a w → c.wp P (SwPost P n w0 Q a) a w
def SwR [Bs] (P : Program) (n : Nat) (w0 : World) (k : Nat) (c : Code) (Q : Xt → St → Prop) (s : St) : Prop :=
  ∀ m a w, Sat P n w0 s m a w → Code.rounds P c (SwPost P n w0 Q a) k a w
section
variable {P : Program} {T : Tab} {n : Nat} {w0 : World} {Q : Xt → St → Prop} {s : St} {c c1 c2 : Code}
theorem SwPost.from [Bs] {a a1 : Act} (hd : a1.defers = a.defers) {e : Exit} {a' : Act} {w' : World} (h : SwPost P n w0 Q a1 e a' w') : SwPost P n w0 Q a e a' w' := by
  obtain ⟨x, s', m', h1, h2, h3, h4⟩ := h
  exact ⟨x, s', m', h1, h2, h3.trans hd, h4⟩
theorem Sw.mono [Bs] {Q' : Xt → St → Prop} (h : Sw P n w0 c Q s) (hq : ∀ x s, Q x s → Q' x s) : Sw P n w0 c Q' s := fun m a w hs =>
  wp_mono (h m a w hs) fun e a' w' ⟨x, s', m', h1, h2, h3⟩ => ⟨x, s', m', h1, hq _ _ h2, h3⟩
theorem sw_ev [Bs] (hP : ProgOk P T) {k : Nat} {x : Xt} {s' : St} (h : evCode P T k n c s = some (x, s')) (hok : codeOk T c = true) (hq : Q x s') : Sw P n w0 c Q s := by
  intro m a w hs
  refine wp_mono ((code_sound hP k).1 n c s x s' h hok hs.hwf m a w hs.tm hs.size hs.rep) fun e a' w' hp => ?_
  obtain ⟨rfl, m', g1, g2, g3, g4, g5⟩ := hp
  exact ⟨x, s', m', rfl, hq, g3, (evCode_grows _ _ _ _ _ _ h).2 hs.hwf, g1, g2, g4, hs.fr.next g5⟩
theorem sw_seq [Bs] (h : Sw P n w0 c1 (Xt.then (Sw P n w0 c2 Q) Q) s) : Sw P n w0 (.seq c1 c2) Q s := by
  intro m a w hs
  refine wp_seq (wp_mono (h m a w hs) fun e a' w' hp => ?_)
  obtain ⟨x, s', m', rfl, hq, hd, hs'⟩ := hp
  cases x with
  | normal =>
    simp only [Xt.then] at hq
    exact wp_mono (hq m' a' w' hs') fun e a2 w2 h2 => h2.from hd
  | ret => simp only [Xt.then] at hq; exact ⟨.ret, s', m', rfl, hq, hd, hs'⟩
  | exit i => simp only [Xt.then] at hq; exact ⟨.exit i, s', m', rfl, hq, hd, hs'⟩
theorem sw_scope [Bs] (h : Sw P n w0 c Q s) : Sw P n w0 (.scope c) Q s := by
  intro m a w hs
  refine wp_scope_straight (wp_mono (h m a w hs) fun e a' w' hp => ?_)
  obtain ⟨x, s', m', rfl, hrest⟩ := hp
  cases x <;> exact ⟨_, s', m', rfl, hrest⟩
theorem sw_block [Bs] {id : Nat} (h : Sw P n w0 c (Xt.inBlock id Q) s) : Sw P n w0 (.block id c) Q s := by
  intro m a w hs
  refine wp_block (wp_mono (h m a w hs) fun e a' w' hp => ?_)
  obtain ⟨x, s', m', rfl, hq, hrest⟩ := hp
  cases x with
  | normal => simp only [Xt.inBlock] at hq; exact ⟨.normal, s', m', rfl, hq, hrest⟩
  | ret => simp only [Xt.inBlock] at hq; exact ⟨.ret, s', m', rfl, hq, hrest⟩
  | exit i =>
    simp only [Xt.inBlock] at hq
    show (if i = id then _ else _)
    cases hb : i.beq id
    · rw [hb] at hq
      have hne : ¬ i = id := fun e => by subst e; simp at hb
      rw [if_neg hne]
      exact ⟨.exit i, s', m', rfl, hq, hrest⟩
    · rw [hb] at hq
      rw [if_pos (Nat.eq_of_beq_eq_true hb)]
      exact ⟨.normal, s', m', rfl, hq, hrest⟩
theorem sw_loop [Bs] (k : Nat) (h : SwR P n w0 k c Q s) : Sw P n w0 (.loop c) Q s := fun m a w hs => wp_loop_rounds k (h m a w hs)
theorem swr_step [Bs] {k : Nat} (h : Sw P n w0 c (Xt.then (SwR P n w0 k c Q) Q) s) : SwR P n w0 (k + 1) c Q s := by
  intro m a w hs
  rw [rounds_succ]
  refine wp_mono (h m a w hs) fun e a' w' hp => ?_
  obtain ⟨x, s', m', rfl, hq, hd, hs'⟩ := hp
  cases x with
  | normal =>
    simp only [Xt.then] at hq
    exact rounds_mono (fun e a2 w2 h2 => h2.from hd) k a' w' (hq m' a' w' hs')
  | ret => simp only [Xt.then] at hq; exact ⟨.ret, s', m', rfl, hq, hd, hs'⟩
  | exit i => simp only [Xt.then] at hq; exact ⟨.exit i, s', m', rfl, hq, hd, hs'⟩
/-- Rounds of a loop. -/
def evRounds (P : Program) (T : Tab) (k n : Nat) (c : Code) : Nat → St → Option St
  | 0, s => some s
  | j + 1, s => match evCode P T k n c s with
    | some (.normal, s') => evRounds P T k n c j s'
    | _ => none
theorem swr_rounds [Bs] (hP : ProgOk P T) {k : Nat} (hok : codeOk T c = true) : ∀ (j i : Nat) (s s' : St), evRounds P T k n c j s = some s' → SwR P n w0 i c Q s' → SwR P n w0 (i + j) c Q s := by
  intro j
  induction j with
  | zero => intro i s s' h hq; cases h; exact hq
  | succ j ih =>
    intro i s s' h hq
    simp only [evRounds] at h
    split at h
    · rename_i s1 h1
      refine swr_step (sw_ev hP h1 hok ?_)
      simp only [Xt.then]
      exact ih i s1 s' h hq
    · cases h
/-! States that are written down -/
def tmOf (l : List Value) : Tr Value := initTm 0 l.toArray
def heapOf : List (Nat × Ob) → Tr Ob
  | [] => .lf
  | (b, o) :: r => (heapOf r).put b (some o)
def stOf (l : List Value) (bs : List (Nat × Ob)) (N : Nat) : St := ⟨tmOf l, ⟨heapOf bs, N⟩⟩
def vsames : List Value → List Value → Bool
  | [], [] => true
  | x :: a, y :: b => veq x y && vsames a b
  | _, _ => false
/-- Are two values the same, a call's several results among them? -/
def vsame : Value → Value → Bool
  | .tuple a, .tuple b => vsames a.toList b.toList
  | x, y => veq x y
theorem vsames_eq : ∀ (a b : List Value), vsames a b = true → a = b := by
  intro a
  induction a with
  | nil => intro b h; cases b <;> simp [vsames] at h ⊢
  | cons x a ih =>
    intro b h
    cases b with
    | nil => simp [vsames] at h
    | cons y b =>
      simp only [vsames, Bool.and_eq_true] at h
      rw [veq_eq h.1, ih b h.2]
theorem vsame_eq {x y : Value} (h : vsame x y = true) : x = y := by
  unfold vsame at h
  split at h
  · rename_i a b
    congr 1
    exact Array.ext' (vsames_eq _ _ h)
  · exact veq_eq h
def sameTm (tm : Tr Value) : Nat → List Value → Bool
  | _, [] => true
  | i, v :: r => vsame ((tm.get i).getD undef) v && sameTm tm (i + 1) r
def sameObs (H : Heap) : List (Nat × Ob) → Bool
  | [] => true
  | (b, o) :: r => (match H.get b with | some q => veqs q.cells o.cells && q.elem.beq o.elem && q.ro == o.ro | none => false) && sameObs H r
def sameSt (n : Nat) (l : List Value) (bs : List (Nat × Ob)) (N : Nat) (s : St) : Bool := l.length.beq n && s.H.n.ble N && sameTm s.tm 0 l && sameObs s.H bs
theorem initTm_get (l : List Value) : ∀ (k : Nat) (t : Tr Value) (j : Nat), (initTm.go l k t).get j = if k ≤ j ∧ j < k + l.length then l[j - k]? else t.get j := by
  induction l with
  | nil => intro k t j; simp [initTm.go]; omega
  | cons v r ih =>
    intro k t j
    simp only [initTm.go, ih, Tr.get_put, List.length_cons]
    by_cases h : j = k
    · subst h
      rw [if_neg (by omega), if_pos rfl, if_pos (by omega)]
      simp
    · by_cases h2 : k + 1 ≤ j ∧ j < k + 1 + r.length
      · rw [if_pos h2, if_pos (by omega)]
        obtain ⟨i, rfl⟩ : ∃ i, j = k + 1 + i := ⟨j - (k + 1), by omega⟩
        rw [show k + 1 + i - (k + 1) = i by omega, show k + 1 + i - k = i + 1 by omega]
        simp
      · rw [if_neg h2, if_neg h, if_neg (by omega)]
theorem tmOf_get (l : List Value) (j : Nat) : (tmOf l).get j = l[j]? := by
  unfold tmOf initTm
  rw [initTm_get]
  by_cases h : j < l.length
  · rw [if_pos (by simpa using h)]; simp
  · rw [if_neg (by simp; omega), List.getElem?_eq_none (by omega)]
    cases j <;> rfl
theorem sameTm_get {tm : Tr Value} : ∀ (l : List Value) (i j : Nat), sameTm tm i l = true → ∀ v, l[j]? = some v → (tm.get (i + j)).getD undef = v := by
  intro l
  induction l with
  | nil => intro i j _ v hv; simp at hv
  | cons x r ih =>
    intro i j h v hv
    simp only [sameTm, Bool.and_eq_true] at h
    cases j with
    | zero => simp at hv; subst hv; exact vsame_eq h.1
    | succ j =>
      have := ih (i + 1) j h.2 v (by simpa using hv)
      rw [← this]; congr 2; omega
theorem heapOf_get {H : Heap} : ∀ (bs : List (Nat × Ob)), sameObs H bs = true → ∀ b o, (heapOf bs).get b = some o → H.get b = some o := by
  intro bs
  induction bs with
  | nil => intro _ b o h; cases b <;> simp [heapOf, Tr.get] at h
  | cons p r ih =>
    intro h b o hb
    obtain ⟨b0, o0⟩ := p
    simp only [sameObs, Bool.and_eq_true] at h
    simp only [heapOf, Tr.get_put] at hb
    split at hb
    · rename_i e
      subst e
      cases hb
      have h1 := h.1
      split at h1
      · rename_i q hq
        simp only [Bool.and_eq_true, beq_iff_eq] at h1
        obtain ⟨⟨g1, g2⟩, g3⟩ := h1
        have g1 := veqs_eq _ _ g1
        have g2 := Nat.eq_of_beq_eq_true g2
        rw [hq]
        obtain ⟨a1, a2, a3⟩ := q
        obtain ⟨b1, b2, b3⟩ := o
        simp only at g1 g2 g3
        rw [g1, g2, g3]
      · cases h1
    · exact ih h.2 b o hb
theorem Sat.weak [Bs] {l : List Value} {bs : List (Nat × Ob)} {N : Nat} (h : sameSt n l bs N s = true) {m : Map} {a : Act} {w : World} (hs : Sat P n w0 s m a w) : Sat P n w0 (stOf l bs N) m a w := by
  simp only [sameSt, Bool.and_eq_true] at h
  obtain ⟨⟨⟨h1, h2⟩, h3⟩, h4⟩ := h
  have h1 := Nat.eq_of_beq_eq_true h1
  have h2 := Nat.le_of_ble_eq_true h2
  have hg : ∀ b o, (stOf l bs N).H.get b = some o → s.H.get b = some o := fun b o hb => heapOf_get bs h4 b o hb
  have hi : ∀ b, ((stOf l bs N).H.get b).isSome → (s.H.get b).isSome := fun b hb => by
    obtain ⟨o, ho⟩ := Option.isSome_iff_exists.1 hb
    rw [hg b o ho]; rfl
  have hn : (stOf l bs N).H.n = N := rfl
  refine ⟨fun b hb => by have := hs.hwf b (hi b hb); omega, fun t => ?_, hs.size, ⟨⟨fun b L hb => by have := hs.rep.dom b L hb; omega, fun b L o hb ho => hs.rep.blk b L o hb (hg b o ho), fun b1 b2 L1 L2 k1 k2 k3 k4 hne => ?_⟩, ⟨hs.rep.bas.toOnBs, fun b L hb hw => hs.rep.bas.own b L hb (by obtain ⟨o, ho, hr⟩ := hw; exact ⟨o, hg _ _ ho, hr⟩)⟩⟩, ⟨hs.fr.os, hs.fr.tape, hs.fr.output, hs.fr.size, hs.fr.keep, fun b L hb hl => hs.fr.live b L hb (hi b hl)⟩⟩
  · have : (stOf l bs N).tm.get t = l[t]? := tmOf_get l t
    rw [this]
    by_cases ht : t < l.length
    · have e := sameTm_get l 0 t h3 l[t] (by simp [ht])
      rw [Nat.zero_add] at e
      rw [List.getElem?_eq_getElem ht]
      have := hs.tm t
      rw [e] at this
      exact this
    · rw [List.getElem?_eq_none (by omega)]
      have h5 : a.tmps.getD t undef = undef := by
        have := hs.size
        simp [Array.getD]
        intro h6; omega
      rw [h5]
      exact VR.of_closed rfl
  · obtain ⟨o, ho, hr⟩ := k3
    exact hs.rep.inj b1 b2 L1 L2 k1 k2 ⟨o, hg _ _ ho, hr⟩ (hi _ k4) hne
theorem Sw.weak [Bs] {l : List Value} {bs : List (Nat × Ob)} {N : Nat} (h : sameSt n l bs N s = true) (hq : Sw P n w0 c Q (stOf l bs N)) : Sw P n w0 c Q s := fun m a w hs => hq m a w (hs.weak h)
theorem SwR.weak [Bs] {l : List Value} {bs : List (Nat × Ob)} {N k : Nat} (h : sameSt n l bs N s = true) (hq : SwR P n w0 k c Q (stOf l bs N)) : SwR P n w0 k c Q s := fun m a w hs => hq m a w (hs.weak h)
/-! Parts of code -/
def cl : Code → Code
  | .seq a _ => a
  | .block _ a => a
  | .loop a => a
  | .scope a => a
  | .cond _ a _ => a
  | c => c
def cr : Code → Code
  | .seq _ b => b
  | .cond _ _ b => b
  | c => c
/-! Pieces -/
def pieceR (n : Nat) (l : List Value) (bs : List (Nat × Ob)) (N : Nat) : Option St → Bool
  | some s => sameSt n l bs N s
  | none => false
def pieceC (n : Nat) (l : List Value) (bs : List (Nat × Ob)) (N : Nat) : Option (Xt × St) → Bool
  | some (.normal, s) => sameSt n l bs N s
  | _ => false
theorem swr_piece [Bs] (hP : ProgOk P T) {k j i : Nat} {l : List Value} {bs : List (Nat × Ob)} {N : Nat} (hok : codeOk T c = true) (h : pieceR n l bs N (evRounds P T k n c j s) = true) (hq : SwR P n w0 i c Q (stOf l bs N)) : SwR P n w0 (i + j) c Q s := by
  cases he : evRounds P T k n c j s with
  | none => rw [he] at h; cases h
  | some s' => rw [he] at h; exact swr_rounds hP hok j i s s' he (SwR.weak h hq)
theorem sw_piece [Bs] (hP : ProgOk P T) {k : Nat} {l : List Value} {bs : List (Nat × Ob)} {N : Nat} (hok : codeOk T c1 = true) (h : pieceC n l bs N (evCode P T k n c1 s) = true) (hq : Sw P n w0 c2 Q (stOf l bs N)) : Sw P n w0 (.seq c1 c2) Q s := by
  unfold pieceC at h
  split at h
  · rename_i s' he
    refine sw_seq (sw_ev hP he hok ?_)
    simp only [Xt.then]
    exact Sw.weak h hq
  · cases h
/-- The end: the answer is true. -/
def endB (T : Tab) (rs : Array ResultVar) : Option (Xt × St) → Bool
  | some (.normal, s) | some (.ret, s) => match aresults T s.tm s.H rs with | some (.bool true) => true | _ => false
  | _ => false
def RetTrue (T : Tab) (rs : Array ResultVar) : Xt → St → Prop
  | .normal, s | .ret, s => aresults T s.tm s.H rs = some (.bool true)
  | _, _ => False
theorem sw_end [Bs] (hP : ProgOk P T) {k : Nat} {rs : Array ResultVar} (hok : codeOk T c = true) (h : endB T rs (evCode P T k n c s) = true) : Sw P n w0 c (RetTrue T rs) s := by
  unfold endB at h
  split at h
  · rename_i s' he
    refine sw_ev hP he hok ?_
    split at h
    · rename_i hr; exact hr
    · cases h
  · rename_i s' he
    refine sw_ev hP he hok ?_
    split at h
    · rename_i hr; exact hr
    · cases h
  · cases h
/-- The last round of a loop, which leaves its block. -/
def pieceE (n id : Nat) (l : List Value) (bs : List (Nat × Ob)) (N : Nat) : Option (Xt × St) → Bool
  | some (.exit j, s) => j.beq id && sameSt n l bs N s
  | _ => false
theorem swr_last [Bs] (hP : ProgOk P T) {k i id : Nat} {l : List Value} {bs : List (Nat × Ob)} {N : Nat} (hok : codeOk T c = true) (h : pieceE n id l bs N (evCode P T k n c s) = true)
    (hq : Sw P n w0 c2 Q (stOf l bs N)) : SwR P n w0 (i + 1) c (Xt.inBlock id (Xt.then (Sw P n w0 c2 Q) Q)) s := by
  unfold pieceE at h
  split at h
  · rename_i j s' he
    simp only [Bool.and_eq_true] at h
    refine swr_step (sw_ev hP he hok ?_)
    simp only [Xt.then, Xt.inBlock, h.1, cond_true]
    exact Sw.weak h.2 hq
  · cases h
theorem calls_of_sw [Bs] [Bs] {f : FuncId} {fn : Func} (hP : ProgOk P T) (hf : T.fn f = some fn) (hb : fn.body = some c) (h : ∀ w0, Sw P (fn.ntmps) w0 c (RetTrue T fn.results) ⟨.lf, .lf, 0⟩) (w : World) (hw : OnBs w) : Calls P f #[] w fun e w' => e = .returned (.bool true) ∧ Quiet w w' := by
  obtain ⟨h1, h2, h3⟩ := hP.fns.fn f fn hf
  have hsat : Sat P fn.ntmps w ⟨.lf, .lf, 0⟩ (fun _ => none) { tmps := #[] ++ Array.replicate (fn.ntmps - (#[] : Array Value).size) undef, defers := [] } w :=
    ⟨fun b hb => by simp [Heap.get] at hb; cases b <;> simp [Tr.get] at hb, init_rel (args := #[]) VRs.nil _, by simp, ⟨⟨fun b L hb => (by cases hb), fun b L o hb => (by cases hb), fun b1 b2 L1 L2 hb => (by cases hb)⟩, ⟨hw, fun b L hb => (by cases hb)⟩⟩,
      ⟨rfl, rfl, rfl, Nat.le_refl _, fun _ _ => rfl, fun b L hb => (by cases hb)⟩⟩
  refine calls_of_wp h1 hb (wp_mono (h w _ _ _ hsat) fun e a' w' hp => ?_)
  obtain ⟨x, s', m', rfl, hq, hd, hs⟩ := hp
  cases x with
  | normal =>
    obtain ⟨v', k1, k2⟩ := results_sound hP.tab hs.tm hs.rep hq
    rw [k2.plain_eq rfl] at k1
    exact ⟨hd, _, k1, rfl, hs.fr.os, hs.fr.tape, hs.fr.output, hs.fr.size, hs.fr.keep⟩
  | ret =>
    obtain ⟨v', k1, k2⟩ := results_sound hP.tab hs.tm hs.rep hq
    rw [k2.plain_eq rfl] at k1
    exact ⟨hd, _, k1, rfl, hs.fr.os, hs.fr.tape, hs.fr.output, hs.fr.size, hs.fr.keep⟩
  | exit i => exact hq.elim
end
end Go.Ev
