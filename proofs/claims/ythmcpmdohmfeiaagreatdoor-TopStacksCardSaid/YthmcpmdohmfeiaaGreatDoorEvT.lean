/- What the evaluator comes to, the model comes to: the theorem. -/
import Derived.Test.YthmcpmdohmfeiaaGreatDoorEvS
namespace Go.Ev
open Go
set_option linter.unusedVariables false
set_option linter.unusedSimpArgs false
section
variable {P : Program} {T : Tab}
theorem evCall_eq (k : Nat) (f : FuncId) (args : Array Value) (H : Heap) : evBody P T k f args H = (match T.fn f with
      | some fn => match fn.body with
        | some c => match evCode P T k (args.size + (fn.ntmps - args.size)) c ⟨initTm 0 args, H⟩ with
          | some (.normal, s') => (match aresults T s'.tm s'.H fn.results with | some v => some (v, s'.H) | none => none)
          | some (.ret, s') => (match aresults T s'.tm s'.H fn.results with | some v => some (v, s'.H) | none => none)
          | _ => none
        | none => none
      | none => match T.mor f args.toList H with
        | some v => some (v, H)
        | none => none) := rfl
theorem evCall_inv {k : Nat} {f : FuncId} {args : Array Value} {H : Heap} {v : Value} {H' : Heap} (h : evBody P T k f args H = some (v, H')) :
    (∃ fn c x s', T.fn f = some fn ∧ fn.body = some c ∧ evCode P T k (args.size + (fn.ntmps - args.size)) c ⟨initTm 0 args, H⟩ = some (x, s') ∧ (x = .normal ∨ x = .ret) ∧ aresults T s'.tm s'.H fn.results = some v ∧ s'.H = H') ∨
    (T.fn f = none ∧ T.mor f args.toList H = some v ∧ H' = H) := by
  rw [evCall_eq] at h
  split at h
  · rename_i fn hf
    split at h
    · rename_i c hb
      split at h
      · rename_i s' he
        split at h
        · rename_i u hu; cases h; exact .inl ⟨fn, c, _, s', hf, hb, he, .inl rfl, hu, rfl⟩
        · cases h
      · rename_i s' he
        split at h
        · rename_i u hu; cases h; exact .inl ⟨fn, c, _, s', hf, hb, he, .inr rfl, hu, rfl⟩
        · cases h
      · cases h
    · cases h
  · rename_i hf
    split at h
    · rename_i u hu; cases h; exact .inr ⟨hf, hu, rfl⟩
    · cases h
theorem evCall_grows (k : Nat) : CallGrows (evCall P T k) := by
  intro f args H v H' h
  unfold evCall at h
  split at h
  · cases h; exact Grows.refl _
  · rcases evCall_inv h with ⟨fn, c, x, s', _, _, he, _, _, rfl⟩ | ⟨_, _, rfl⟩
    · exact evCode_grows _ _ _ _ _ _ he
    · exact Grows.refl _
/-- What holds of the code at a fuel. -/
def CodeSound [Bs] (P : Program) (T : Tab) (k : Nat) : Prop :=
  ∀ (n : Nat) (c : Code) (s : St) (x : Xt) (s' : St), evCode P T k n c s = some (x, s') → codeOk T c = true → HWf s.H → ∀ (m : Map) (a : Act) (w : World), TmRel m s.tm a.tmps → a.tmps.size = n → Rep P m s.H w →
    c.wp P (Post P n m s.H w a x s') a w
def LoopSound [Bs] (P : Program) (T : Tab) (k : Nat) : Prop :=
  ∀ (n : Nat) (c : Code) (s : St) (x : Xt) (s' : St), evCode P T k n (.loop c) s = some (x, s') → codeOk T c = true → HWf s.H → ∀ (m : Map) (a : Act) (w : World), TmRel m s.tm a.tmps → a.tmps.size = n → Rep P m s.H w →
    Code.rounds P c (Post P n m s.H w a x s') k a w
theorem call_of_code [Bs] (hP : ProgOk P T) {k : Nat} (hk : CodeSound P T k) : CallOk P (evCall P T k) := by
  intro f args H v H' h0 hwf m w args' hr hargs
  have h : evBody P T k f args H = some (v, H') ∨ (T.orc f args.toList = some v ∧ H' = H) := by
    unfold evCall at h0
    split at h0
    · rename_i v0 hv0; cases h0; exact .inr ⟨hv0, rfl⟩
    · exact .inl h0
  rcases h with h | ⟨h, rfl⟩
  case inr =>
    obtain ⟨h1, h2, h3⟩ := hP.orc f _ v h
    have he : args' = args := by
      apply Array.ext'
      refine List.ext_getElem? fun i => ?_
      by_cases hi : i < args.size
      · obtain ⟨y, hy, hv⟩ := hargs.2 i args[i] (by simp [hi])
        rw [hy, hv.closed_eq (List.all_eq_true.1 h2 _ (by simp))]
        simp [hi]
      · rw [List.getElem?_eq_none (by have := hargs.1; simp at this ⊢; omega), List.getElem?_eq_none (by simp; omega)]
    subst he
    have h4 := h3 w hr.bas.toOnBs
    simp only [Array.toArray_toList] at h4
    refine h4.mono fun e w' he => ?_
    obtain ⟨rfl, hq⟩ := he
    refine ⟨v, m, rfl, VR.of_closed h1, ⟨⟨hr.dom, fun b L o hb ho => ?_, hr.inj⟩, ⟨⟨Nat.le_trans hr.bas.ksz hq.size, fun c hc => (hq.block c (Nat.lt_of_lt_of_le hc hr.bas.ksz)).trans (hr.bas.low c hc)⟩, hr.bas.own⟩⟩, hq.os, hq.tape, hq.output, hq.size, fun c hc _ => hq.block c hc, Map.le_refl m, Nat.le_refl _, fun _ _ h => .inl h, fun _ _ h k => .inl ⟨h, k⟩, fun _ _ h => h, fun _ _ h => h, fun _ _ _ => rfl⟩
    have hbk := hr.blk b L o hb ho
    exact hbk.mono (Map.le_refl m) (hq.block _ hbk.lt)
  rcases evCall_inv h with ⟨fn, c, x, s', hf, hb, he, hx, hres, rfl⟩ | ⟨_, hm, rfl⟩
  case inr =>
    obtain ⟨h1, h3⟩ := hP.mor f args H' v hm
    refine (h3 m w args' hwf hr hargs).mono fun e w' he => ?_
    obtain ⟨rfl, hq⟩ := he
    refine ⟨v, m, rfl, VR.of_closed h1, ⟨⟨hr.dom, fun b L o hb ho => ?_, hr.inj⟩, ⟨⟨Nat.le_trans hr.bas.ksz hq.size, fun c hc => (hq.block c (Nat.lt_of_lt_of_le hc hr.bas.ksz)).trans (hr.bas.low c hc)⟩, hr.bas.own⟩⟩, hq.os, hq.tape, hq.output, hq.size, fun c hc _ => hq.block c hc, Map.le_refl m, Nat.le_refl _, fun _ _ h => .inl h, fun _ _ h k => .inl ⟨h, k⟩, fun _ _ h => h, fun _ _ h => h, fun _ _ _ => rfl⟩
    have hbk := hr.blk b L o hb ho
    exact hbk.mono (Map.le_refl m) (hq.block _ hbk.lt)
  obtain ⟨h1, h2, h3⟩ := hP.fns.fn f fn hf
  have hs : args.size = args'.size := hargs.arr.1
  have hw := hk _ _ _ _ _ he (hP.code f fn c hf hb) hwf m { tmps := args' ++ Array.replicate (fn.ntmps - args'.size) undef, defers := [] } w (init_rel hargs _) (by simp [hs]) hr
  refine calls_of_wp h1 hb (wp_mono hw fun e a' w' hp => ?_)
  obtain ⟨rfl, m', g1, g2, g3, g4, g5⟩ := hp
  obtain ⟨v', k1, k2⟩ := results_sound hP.tab g1 g4 hres
  rcases hx with rfl | rfl
  · exact ⟨g3, v', k1, v', m', rfl, k2, g4, g5⟩
  · exact ⟨g3, v', k1, v', m', rfl, k2, g4, g5⟩
theorem code_sound [Bs] (hP : ProgOk P T) : ∀ k, CodeSound P T k ∧ LoopSound P T k := by
  intro k
  induction k with
  | zero => exact ⟨fun n c s x s' h => by simp [evCode] at h, fun n c s x s' h => by simp [evCode] at h⟩
  | succ k ih =>
    obtain ⟨ihc, ihl⟩ := ih
    have loopS : LoopSound P T (k + 1) := by
      intro n c s x s' h hok hwf m a w ht hn hr
      simp only [evCode] at h
      rw [rounds_succ]
      split at h
      · rename_i s1 h1
        have hwf1 := (evCode_grows _ _ _ _ _ _ h1).2 hwf
        refine wp_mono (ihc n c s _ s1 h1 hok hwf m a w ht hn hr) fun e a' w' hp => ?_
        obtain ⟨rfl, m', g1, g2, g3, g4, g5⟩ := hp
        exact rounds_mono (fun e a2 w2 h2 => Post.from hr g5 g3 h2) k a' w' (ihl n c s1 x s' h hok hwf1 m' a' w' g1 g2 g4)
      · rename_i hnot
        refine wp_mono (ihc n c s x s' h hok hwf m a w ht hn hr) fun e a' w' hp => ?_
        obtain ⟨rfl, hrest⟩ := hp
        · cases x with
          | normal => exact absurd h (hnot _)
          | ret => exact ⟨rfl, hrest⟩
          | exit i => exact ⟨rfl, hrest⟩
    refine ⟨fun n c s x s' h hok hwf m a w ht hn hr => ?_, loopS⟩
    have hfin : Post P n m s.H w a .normal s .normal a w := ⟨rfl, m, ht, hn, rfl, hr, Fr.refl _ _ _⟩
    cases c with
    | skip => simp only [evCode] at h; cases h; exact wp_skip hfin
    | label l => simp only [evCode] at h; cases h; exact wp_label hfin
    | ret => simp only [evCode] at h; cases h; exact wp_ret ⟨rfl, m, ht, hn, rfl, hr, Fr.refl _ _ _⟩
    | exit i => simp only [evCode] at h; cases h; exact wp_exit ⟨rfl, m, ht, hn, rfl, hr, Fr.refl _ _ _⟩
    | region id ops draw =>
      simp only [evCode] at h
      split at h
      · rename_i s1 h1
        cases h
        exact region_sound hP (call_of_code hP ihc) (evCall_grows k) h1 hok hwf ht hn hr
      · cases h
    | seq c1 c2 =>
      simp only [evCode] at h
      simp only [codeOk, Bool.and_eq_true] at hok
      split at h
      · rename_i s1 h1
        have hwf1 := (evCode_grows _ _ _ _ _ _ h1).2 hwf
        refine wp_seq (wp_mono (ihc n c1 s _ s1 h1 hok.1 hwf m a w ht hn hr) fun e a' w' hp => ?_)
        obtain ⟨rfl, m', g1, g2, g3, g4, g5⟩ := hp
        exact wp_mono (ihc n c2 s1 x s' h hok.2 hwf1 m' a' w' g1 g2 g4) fun e a2 w2 h2 => Post.from hr g5 g3 h2
      · rename_i hnot
        refine wp_seq (wp_mono (ihc n c1 s x s' h hok.1 hwf m a w ht hn hr) fun e a' w' hp => ?_)
        obtain ⟨rfl, hrest⟩ := hp
        · cases x with
          | normal => exact absurd h (hnot _)
          | ret => exact ⟨rfl, hrest⟩
          | exit i => exact ⟨rfl, hrest⟩
    | cond c0 c1 c2 =>
      simp only [evCode] at h
      simp only [codeOk, Bool.and_eq_true] at hok
      split at h
      · rename_i t hc
        have hv := (ht.op [c0] c0 (by simp) _ hc).plain_eq rfl
        refine wp_cond hv ?_
        cases t
        · exact ihc n c2 s x s' h hok.2 hwf m a w ht hn hr
        · exact ihc n c1 s x s' h hok.1 hwf m a w ht hn hr
      · cases h
    | block id c1 =>
      simp only [evCode] at h
      simp only [codeOk] at hok
      refine wp_block ?_
      split at h
      · rename_i i s1 h1
        refine wp_mono (ihc n c1 s _ s1 h1 hok hwf m a w ht hn hr) fun e a' w' hp => ?_
        obtain ⟨rfl, hrest⟩ := hp
        · cases hb : i.beq id
          · rw [hb] at h; cases h
            have hne : ¬ i = id := fun e => by subst e; simp at hb
            show (if i = id then _ else _)
            rw [if_neg hne]
            exact ⟨rfl, hrest⟩
          · rw [hb] at h; cases h
            have he : i = id := Nat.eq_of_beq_eq_true hb
            show (if i = id then _ else _)
            rw [if_pos he]
            exact ⟨rfl, hrest⟩
      · rename_i hnot
        refine wp_mono (ihc n c1 s x s' h hok hwf m a w ht hn hr) fun e a' w' hp => ?_
        obtain ⟨rfl, hrest⟩ := hp
        · cases x with
          | normal => exact ⟨rfl, hrest⟩
          | ret => exact ⟨rfl, hrest⟩
          | exit i => exact absurd h (hnot _ _)
    | loop c1 =>
      simp only [codeOk] at hok
      exact wp_loop_rounds (k + 1) (loopS n c1 s x s' h hok hwf m a w ht hn hr)
    | scope c1 =>
      simp only [evCode] at h
      simp only [codeOk] at hok
      refine wp_scope_straight (wp_mono (ihc n c1 s x s' h hok hwf m a w ht hn hr) fun e a' w' hp => ?_)
      obtain ⟨rfl, hrest⟩ := hp
      · cases x <;> exact ⟨rfl, hrest⟩
    | _ => simp [evCode] at h
/-- **What the evaluator comes to, the model comes to.** -/
theorem evCall_sound [Bs] (hP : ProgOk P T) {k : Nat} {f : FuncId} {args : Array Value} {H : Heap} {v : Value} {H' : Heap} (h : evCall P T k f args H = some (v, H')) (hwf : HWf H) {m : Map} {w : World} {args' : Array Value}
    (hr : Rep P m H w) (hargs : VRs m args.toList args'.toList) : Calls P f args' w (CallPost P m H w v H') :=
  call_of_code hP (code_sound hP k).1 f args H v H' h hwf m w args' hr hargs
end
#print axioms evCall_sound
end Go.Ev
