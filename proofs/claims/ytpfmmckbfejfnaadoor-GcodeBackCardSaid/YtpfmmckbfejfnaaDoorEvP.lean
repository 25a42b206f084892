/- From a state to a state, by pieces. -/
import Derived.Test.YtpfmmckbfejfnaaDoorEvZ
namespace Go.Ev
open Go
set_option linter.unusedVariables false
def IsAt (t : St) : Xt → St → Prop := fun x s => x = .normal ∧ s = t
/-- From one state to another. -/
def Goes [Bs] (P : Program) (n : Nat) (w0 : World) (c : Code) (s t : St) : Prop := Sw P n w0 c (IsAt t) s
/-- Round after round, to where the loop's block is left. -/
def LoopTo [Bs] (P : Program) (n : Nat) (w0 : World) (id : Nat) (c : Code) (s t : St) : Prop := ∃ k, SwR P n w0 k c (Xt.inBlock id (IsAt t)) s
section
variable {P : Program} {T : Tab} {n : Nat} {w0 : World} {s t u : St} {c a b : Code} {id : Nat}
theorem Sw.post_weak [Bs] {l : List Value} {bs : List (Nat × Ob)} {N : Nat} (h : Sw P n w0 c (fun x s' => x = .normal ∧ sameSt n l bs N s' = true) s) : Goes P n w0 c s (stOf l bs N) := fun m a w hs =>
  wp_mono (h m a w hs) fun e a' w' ⟨x, s', m', h1, ⟨h2, h3⟩, h4, h5⟩ => ⟨x, _, m', h1, ⟨h2, rfl⟩, h4, h5.weak h3⟩
theorem goes_piece [Bs] (hP : ProgOk P T) {k : Nat} {l : List Value} {bs : List (Nat × Ob)} {N : Nat} (hok : codeOk T c = true) (h : fpC P T k n c s l bs N = tt) : Goes P n w0 c s (stOf l bs N) := by
  have h := fpC_ok h
  unfold pieceC at h
  split at h
  · rename_i s' he
    exact Sw.post_weak (sw_ev hP he hok ⟨rfl, h⟩)
  · cases h
theorem goes_seq [Bs] (h1 : Goes P n w0 a s t) (h2 : Goes P n w0 b t u) : Goes P n w0 (.seq a b) s u :=
  sw_seq (Sw.mono h1 fun x s' ⟨e1, e2⟩ => by subst e1 e2; simp only [Xt.then]; exact h2)
theorem goes_then [Bs] {Q : Xt → St → Prop} (h1 : Goes P n w0 a s t) (h2 : Sw P n w0 b Q t) : Sw P n w0 (.seq a b) Q s :=
  sw_seq (Sw.mono h1 fun x s' ⟨e1, e2⟩ => by subst e1 e2; simp only [Xt.then]; exact h2)
theorem goes_block [Bs] (h : Goes P n w0 c s t) : Goes P n w0 (.block id c) s t :=
  sw_block (Sw.mono h fun x s' ⟨e1, e2⟩ => by subst e1 e2; simp only [Xt.inBlock]; exact ⟨rfl, rfl⟩)
theorem goes_loop [Bs] (h : LoopTo P n w0 id c s t) : Goes P n w0 (.block id (.loop c)) s t := by
  obtain ⟨k, h⟩ := h
  exact sw_block (sw_loop k h)
theorem loop_round [Bs] (h1 : Goes P n w0 c s t) (h2 : LoopTo P n w0 id c t u) : LoopTo P n w0 id c s u := by
  obtain ⟨k, h2⟩ := h2
  exact ⟨k + 1, swr_step (Sw.mono h1 fun x s' ⟨e1, e2⟩ => by subst e1 e2; simp only [Xt.then]; exact h2)⟩
theorem loop_rounds [Bs] (hP : ProgOk P T) {k j : Nat} {l : List Value} {bs : List (Nat × Ob)} {N : Nat} (hok : codeOk T c = true) (h : fpR P T k n c j s l bs N = tt) (h2 : LoopTo P n w0 id c (stOf l bs N) u) : LoopTo P n w0 id c s u := by
  obtain ⟨i, h2⟩ := h2
  exact ⟨i + j, swr_piece hP hok (fpR_ok h) h2⟩
theorem loop_last [Bs] (hP : ProgOk P T) {k : Nat} {l : List Value} {bs : List (Nat × Ob)} {N : Nat} (hok : codeOk T c = true) (h : fpE P T k n c s id l bs N = tt) : LoopTo P n w0 id c s (stOf l bs N) := by
  have h := fpE_ok h
  unfold pieceE at h
  split at h
  · rename_i j s' he
    simp only [Bool.and_eq_true] at h
    refine ⟨0 + 1, fun m a w hs => ?_⟩
    have h3 : Sw P n w0 c (fun x v => x = .exit j ∧ sameSt n l bs N v = true) s := sw_ev hP he hok ⟨rfl, h.2⟩
    rw [rounds_succ]
    refine wp_mono (h3 m a w hs) fun e a' w' ⟨x, v, m', e1, ⟨e2, e3⟩, e4, e5⟩ => ?_
    subst e1 e2
    refine ⟨.exit j, _, m', rfl, ?_, e4, e5.weak e3⟩
    simp only [Xt.inBlock, h.1, cond_true]
    exact ⟨rfl, rfl⟩
  · cases h
end
end Go.Ev
