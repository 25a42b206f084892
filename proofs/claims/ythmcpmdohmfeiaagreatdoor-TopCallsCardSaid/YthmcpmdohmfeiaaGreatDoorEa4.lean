/- The evaluator by hand: what it must come to, piece by piece. -/
import Derived.Test.YthmcpmdohmfeiaaGreatDoorEa3
namespace Go.Ev
open Go
set_option linter.unusedVariables false
set_option linter.unusedSimpArgs false
theorem cond_first {α : Sort _} {c c' : Bool} {a b : α} (h : c = c') : cond c a b = cond c' a b := by rw [h]
/-! More fuel does no harm -/
section
variable {P : Program} {T : Tab}
def CallLe (c c' : FuncId → Array Value → Heap → Option (Value × Heap)) : Prop := ∀ f args H r, c f args H = some r → c' f args H = some r
variable {callf callf' : FuncId → Array Value → Heap → Option (Value × Heap)} (hc : CallLe callf callf') {n : Nat} {ops : Array Oper}
include hc
theorem step1_le {o : Oper} {s s' : St} (h : step1 P T n callf ops o s = some s') : step1 P T n callf' ops o s = some s' := by
  unfold step1 at h ⊢
  cases hw : awanted ops s.tm o
  · rw [hw] at h; exact h
  · rw [hw] at h
    simp only [cond_true] at h ⊢
    split at h
    · exact h
    · exact h
    · rename_i f args H1 ha
      split at h
      · rename_i v H2 hcc
        simp only [hc _ _ _ _ hcc]; exact h
      · cases h
    · cases h
theorem evOps_le : ∀ (l : List Oper) (s s' : St), evOps P T n callf ops l s = some s' → evOps P T n callf' ops l s = some s' := by
  intro l
  induction l with
  | nil => intro s s' h; exact h
  | cons o l ih =>
    intro s s' h
    simp only [evOps] at h ⊢
    split at h
    · rename_i s1 h1; simp only [step1_le hc h1]; exact ih _ _ h
    · cases h
theorem evTrace_le : ∀ (l : List Oper) (s : St) (r : List St), evTrace P T n callf ops l s = some r → evTrace P T n callf' ops l s = some r := by
  intro l
  induction l with
  | nil => intro s r h; exact h
  | cons o l ih =>
    intro s r h
    simp only [evTrace] at h ⊢
    split at h
    · rename_i s1 h1
      simp only [step1_le hc h1]
      split at h
      · rename_i r' hr; simp only [ih _ _ hr]; exact h
      · cases h
    · cases h
theorem evRegion_le {draw : Bool} {s s' : St} (h : evRegion P T n callf ops draw s = some s') : evRegion P T n callf' ops draw s = some s' := by
  unfold evRegion at h ⊢
  cases draw
  · exact evOps_le hc _ _ _ h
  · simp only [cond_true] at h ⊢
    cases hps : loose T ops with
    | nil => rw [hps] at h; exact evOps_le hc _ _ _ h
    | cons p ps =>
      rw [hps] at h
      simp only at h ⊢
      split at h
      · rename_i l hl
        simp only [evTrace_le hc _ _ _ hl]; exact h
      · cases h
end
section
variable {P : Program} {T : Tab}
theorem evCode_region (k n id : Nat) (ops : Array Oper) (draw : Bool) (s : St) : evCode P T (k + 1) n (.region id ops draw) s = (match evRegion P T n (evCall P T k) ops draw s with | some s' => some (.normal, s') | none => none) := rfl
theorem evCode_le : ∀ (k k' n : Nat) (c : Code) (s : St) (r : Xt × St), k ≤ k' → evCode P T k n c s = some r → evCode P T k' n c s = some r := by
  intro k
  induction k with
  | zero => intro k' n c s r _ h; simp [evCode] at h
  | succ k ih =>
    intro k' n c s r hk h
    obtain ⟨j, rfl⟩ : ∃ j, k' = j + 1 := ⟨k' - 1, by omega⟩
    have hj : k ≤ j := by omega
    cases c with
    | region id ops draw =>
      rw [evCode_region] at h ⊢
      have hle : CallLe (evCall P T k) (evCall P T j) := by
        intro f args H r hr
        obtain ⟨v, H'⟩ := r
        unfold evCall at hr ⊢
        split at hr
        · exact hr
        · rcases evCall_inv hr with ⟨fn, c, x, s', h1, h2, h3, h4, h5, rfl⟩ | ⟨h1, h2⟩
          · rw [evCall_eq]
            simp only [h1, h2, ih _ _ _ _ _ hj h3]
            rcases h4 with rfl | rfl <;> simp only [h5]
          · rw [evCall_eq]
            simp only [h1, h2]
      split at h
      · rename_i s1 h1
        simp only [evRegion_le hle h1]; exact h
      · cases h
    | skip => exact h
    | label l => exact h
    | ret => exact h
    | exit i => exact h
    | seq a b =>
      simp only [evCode] at h ⊢
      split at h
      · rename_i s1 h1; simp only [ih _ _ _ _ _ hj h1]; exact ih _ _ _ _ _ hj h
      · rename_i hnot
        rw [ih _ _ _ _ _ hj h]
        split
        · rename_i s1 he; cases he; exact absurd h (hnot _)
        · rfl
    | cond c a b =>
      simp only [evCode] at h ⊢
      split at h
      · exact ih _ _ _ _ _ hj h
      · cases h
    | block id c =>
      simp only [evCode] at h ⊢
      split at h
      · rename_i i s1 h1; simp only [ih _ _ _ _ _ hj h1]; exact h
      · rename_i hnot
        rw [ih _ _ _ _ _ hj h]
        split
        · rename_i i s1 he; cases he; exact absurd h (hnot _ _)
        · rfl
    | loop c =>
      simp only [evCode] at h ⊢
      split at h
      · rename_i s1 h1; simp only [ih _ _ _ _ _ hj h1]; exact ih _ _ _ _ _ hj h
      · rename_i hnot
        rw [ih _ _ _ _ _ hj h]
        split
        · rename_i s1 he; cases he; exact absurd h (hnot _)
        · rfl
    | scope c =>
      simp only [evCode] at h ⊢
      exact ih _ _ _ _ _ hj h
    | _ => simp [evCode] at h
theorem evCall_le {k k' : Nat} (hk : k ≤ k') : CallLe (evCall P T k) (evCall P T k') := by
  intro f args H r hr
  obtain ⟨v, H'⟩ := r
  unfold evCall at hr ⊢
  split at hr
  · exact hr
  · rcases evCall_inv hr with ⟨fn, c, x, s', h1, h2, h3, h4, h5, rfl⟩ | ⟨h1, h2⟩
    · rw [evCall_eq]
      simp only [h1, h2, evCode_le _ _ _ _ _ _ hk h3]
      rcases h4 with rfl | rfl <;> simp only [h5]
    · rw [evCall_eq]
      simp only [h1, h2]
end
/-! What it must come to -/
section
variable (P : Program) (T : Tab)
def ACall (f : FuncId) (args : Array Value) (H : Heap) (R : Value → Heap → Prop) : Prop := ∃ k v H', evCall P T k f args H = some (v, H') ∧ R v H'
def Aw (n : Nat) (c : Code) (Q : Xt → St → Prop) (s : St) : Prop := ∃ k x s', evCode P T k n c s = some (x, s') ∧ Q x s'
def APut (n : Nat) (dst : Option Tmp) (v : Value) (tm : Tr Value) (H : Heap) (Q : St → Prop) : Prop := match dput n tm dst v with | some tm' => Q ⟨tm', H⟩ | none => False
def AStep (n : Nat) (ops : Array Oper) (o : Oper) (Q : St → Prop) (s : St) : Prop :=
  bif awanted ops s.tm o then
    match aop P T s.tm o s.H with
    | some (.val v, H) => APut n o.dst v s.tm H Q
    | some (.skip, H) => APut n o.dst undef s.tm H Q
    | some (.enter f args, H) => ACall P T f args H fun v H' => APut n o.dst v s.tm H' Q
    | none => False
  else APut n o.dst undef s.tm s.H Q
def AOps (n : Nat) (ops : Array Oper) : List Oper → (St → Prop) → St → Prop
  | [], Q, s => Q s
  | o :: l, Q, s => AStep P T n ops o (AOps n ops l Q) s
def Xt.then (K : St → Prop) (Q : Xt → St → Prop) : Xt → St → Prop
  | .normal, s => K s
  | x, s => Q x s
def Xt.inBlock (id : Nat) (Q : Xt → St → Prop) : Xt → St → Prop
  | .exit i, s => bif i.beq id then Q .normal s else Q (.exit i) s
  | x, s => Q x s
variable {P T} {n : Nat} {Q : Xt → St → Prop} {s : St} {a b c : Code} {ops : Array Oper}
theorem ACall.mono {f : FuncId} {args : Array Value} {H : Heap} {R R' : Value → Heap → Prop} (h : ACall P T f args H R) (hr : ∀ v H', R v H' → R' v H') : ACall P T f args H R' :=
  let ⟨k, v, H', h1, h2⟩ := h; ⟨k, v, H', h1, hr _ _ h2⟩
theorem Aw.mono {Q' : Xt → St → Prop} (h : Aw P T n c Q s) (hq : ∀ x s, Q x s → Q' x s) : Aw P T n c Q' s :=
  let ⟨k, x, s', h1, h2⟩ := h; ⟨k, x, s', h1, hq _ _ h2⟩
theorem APut.spec {m : Nat} {dst : Option Tmp} {v : Value} {tm : Tr Value} {H : Heap} {Q : St → Prop} (h : APut m dst v tm H Q) : ∃ s', fin m dst tm v H = some s' ∧ Q s' := by
  unfold APut at h
  unfold fin
  split at h
  · rename_i tm' htm; exact ⟨_, by simp only [htm], h⟩
  · exact h.elim
theorem AStep.spec {o : Oper} {Q : St → Prop} (h : AStep P T n ops o Q s) : ∃ k s', step1 P T n (evCall P T k) ops o s = some s' ∧ Q s' := by
  unfold AStep at h
  unfold step1
  cases hw : awanted ops s.tm o
  · rw [hw] at h
    obtain ⟨s', h1, h2⟩ := APut.spec h
    exact ⟨0, s', h1, h2⟩
  · rw [hw] at h
    simp only [cond_true] at h ⊢
    split at h
    · rename_i v H ha
      obtain ⟨s', h1, h2⟩ := APut.spec h
      exact ⟨0, s', by simp only [ha, h1], h2⟩
    · rename_i H ha
      obtain ⟨s', h1, h2⟩ := APut.spec h
      exact ⟨0, s', by simp only [ha, h1], h2⟩
    · rename_i f args H ha
      obtain ⟨k, v, H', h1, h2⟩ := h
      obtain ⟨s', h3, h4⟩ := APut.spec h2
      exact ⟨k, s', by simp only [ha, h1, h3], h4⟩
    · exact h.elim
theorem AOps.spec : ∀ (l : List Oper) (Q : St → Prop) (s : St), AOps P T n ops l Q s → ∃ k s', evOps P T n (evCall P T k) ops l s = some s' ∧ Q s' := by
  intro l
  induction l with
  | nil => intro Q s h; exact ⟨0, s, rfl, h⟩
  | cons o l ih =>
    intro Q s h
    obtain ⟨k, s1, h1, h2⟩ := AStep.spec (show AStep P T n ops o (AOps P T n ops l Q) s from h)
    obtain ⟨k', s', h3, h4⟩ := ih _ _ h2
    refine ⟨max k k', s', ?_, h4⟩
    simp only [evOps, step1_le (evCall_le (Nat.le_max_left k k')) h1]
    exact evOps_le (evCall_le (Nat.le_max_right k k')) _ _ _ h3
theorem aw_skip (h : Q .normal s) : Aw P T n .skip Q s := ⟨1, _, _, rfl, h⟩
theorem aw_label {l : Nat} (h : Q .normal s) : Aw P T n (.label l) Q s := ⟨1, _, _, rfl, h⟩
theorem aw_ret (h : Q .ret s) : Aw P T n .ret Q s := ⟨1, _, _, rfl, h⟩
theorem aw_exit {i : Nat} (h : Q (.exit i) s) : Aw P T n (.exit i) Q s := ⟨1, _, _, rfl, h⟩
theorem aw_seq (h : Aw P T n a (Xt.then (Aw P T n b Q) Q) s) : Aw P T n (.seq a b) Q s := by
  obtain ⟨k, x, s1, h1, h2⟩ := h
  cases x with
  | normal =>
    obtain ⟨k', x', s', h3, h4⟩ := h2
    refine ⟨max k k' + 1, x', s', ?_, h4⟩
    simp only [evCode, evCode_le _ _ _ _ _ _ (Nat.le_max_left k k') h1]
    exact evCode_le _ _ _ _ _ _ (Nat.le_max_right k k') h3
  | ret => exact ⟨k + 1, _, _, by simp only [evCode, h1], h2⟩
  | exit i => exact ⟨k + 1, _, _, by simp only [evCode, h1], h2⟩
theorem aw_seq_k (h : ∀ K : St → Prop, (∀ s, Aw P T n b Q s → K s) → Aw P T n a (Xt.then K Q) s) : Aw P T n (.seq a b) Q s := aw_seq (h _ fun _ h => h)
theorem aw_cond {x : Operand} {t : Bool} (hx : aeval s.tm x = some (.bool t)) (h : Aw P T n (bif t then a else b) Q s) : Aw P T n (.cond x a b) Q s := by
  obtain ⟨k, y, s', h1, h2⟩ := h
  exact ⟨k + 1, y, s', by simp only [evCode, hx, h1], h2⟩
theorem aw_cond_split {x : Operand} {t : Bool} (hx : aeval s.tm x = some (.bool t)) (ht : t = true → Aw P T n a Q s) (hf : t = false → Aw P T n b Q s) : Aw P T n (.cond x a b) Q s := by
  refine aw_cond hx ?_
  cases t
  · exact hf rfl
  · exact ht rfl
theorem aw_block {id : Nat} (h : Aw P T n a (Xt.inBlock id Q) s) : Aw P T n (.block id a) Q s := by
  obtain ⟨k, x, s1, h1, h2⟩ := h
  cases x with
  | normal => exact ⟨k + 1, _, _, by simp only [evCode, h1], h2⟩
  | ret => exact ⟨k + 1, _, _, by simp only [evCode, h1], h2⟩
  | exit i =>
    simp only [Xt.inBlock] at h2
    cases hb : i.beq id
    · rw [hb] at h2; exact ⟨k + 1, _, _, by simp only [evCode, h1, hb, cond_false], h2⟩
    · rw [hb] at h2; exact ⟨k + 1, _, _, by simp only [evCode, h1, hb, cond_true], h2⟩
theorem aw_scope (h : Aw P T n a Q s) : Aw P T n (.scope a) Q s := by
  obtain ⟨k, x, s1, h1, h2⟩ := h
  exact ⟨k + 1, x, s1, by simp only [evCode, h1], h2⟩
theorem aw_loop_once (h : Aw P T n a (Xt.then (Aw P T n (.loop a) Q) Q) s) : Aw P T n (.loop a) Q s := by
  obtain ⟨k, x, s1, h1, h2⟩ := h
  cases x with
  | normal =>
    obtain ⟨k', x', s', h3, h4⟩ := h2
    refine ⟨max k k' + 1, x', s', ?_, h4⟩
    simp only [evCode, evCode_le _ _ _ _ _ _ (Nat.le_max_left k k') h1]
    exact evCode_le _ _ _ _ _ _ (Nat.le_max_right k k') h3
  | ret => exact ⟨k + 1, _, _, by simp only [evCode, h1], h2⟩
  | exit i => exact ⟨k + 1, _, _, by simp only [evCode, h1], h2⟩
theorem aw_loop (I : Nat → St → Prop) (m : Nat) (h0 : I m s) (round : ∀ m s, I m s → Aw P T n a (Xt.then (fun s' => ∃ m', m' < m ∧ I m' s') Q) s) : Aw P T n (.loop a) Q s := by
  induction m using Nat.strongRecOn generalizing s with
  | _ m ih =>
    refine aw_loop_once ((round m s h0).mono fun x s1 hx => ?_)
    cases x with
    | normal => obtain ⟨m', h1, h2⟩ := hx; exact ih m' h1 h2
    | ret => exact hx
    | exit i => exact hx
theorem aw_region {id : Nat} (h : AOps P T n ops ops.toList (Q .normal) s) : Aw P T n (.region id ops false) Q s := by
  obtain ⟨k, s', h1, h2⟩ := AOps.spec _ _ _ h
  exact ⟨k + 1, .normal, s', by rw [evCode_region]; simp only [evRegion, cond_false, h1], h2⟩
theorem aw_region_lit {id : Nat} {l : List Oper} (h : AOps P T n l.toArray l (Q .normal) s) : Aw P T n (.region id l.toArray false) Q s := aw_region (by simpa using h)
theorem aw_draw0 {id : Nat} {l : List Oper} (hl : loose T l.toArray = []) (h : AOps P T n l.toArray l (Q .normal) s) : Aw P T n (.region id l.toArray true) Q s := by
  obtain ⟨k, s', h1, h2⟩ := AOps.spec _ _ _ h
  exact ⟨k + 1, .normal, s', by rw [evCode_region]; simp only [evRegion, cond_true, hl, h1], h2⟩
/-- What comes behind. -/
def Kt (P : Program) (T : Tab) (n : Nat) (b : Code) (Q : Xt → St → Prop) (s : St) : Prop := Aw P T n b Q s
theorem kt (h : Aw P T n b Q s) : Kt P T n b Q s := h
theorem aw_seq' (h : Aw P T n a (Xt.then (Kt P T n b Q) Q) s) : Aw P T n (.seq a b) Q s := aw_seq h
theorem aw_region_k {id : Nat} {l : List Oper} (h : ∀ K : St → Prop, (∀ s, Q .normal s → K s) → AOps P T n l.toArray l K s) : Aw P T n (.region id l.toArray false) Q s := aw_region_lit (h _ fun _ h => h)
theorem aw_draw0_k {id : Nat} {l : List Oper} (hl : loose T l.toArray = []) (h : ∀ K : St → Prop, (∀ s, Q .normal s → K s) → AOps P T n l.toArray l K s) : Aw P T n (.region id l.toArray true) Q s := aw_draw0 hl (h _ fun _ h => h)
theorem aops_nil {K : St → Prop} (h : K s) : AOps P T n ops [] K s := h
theorem aops_cons {K : St → Prop} {o : Oper} {l : List Oper} (h : AStep P T n ops o (AOps P T n ops l K) s) : AOps P T n ops (o :: l) K s := h
def ARes (P : Program) (T : Tab) (n : Nat) (dst : Option Tmp) (tm : Tr Value) (K : St → Prop) : Res × Heap → Prop
  | (.val v, H) => APut n dst v tm H K
  | (.skip, H) => APut n dst undef tm H K
  | (.enter f args, H) => ACall P T f args H fun v H' => APut n dst v tm H' K
theorem aops_res {K : St → Prop} {o : Oper} {l : List Oper} {r : Res × Heap} (hw : awanted ops s.tm o = true) (ha : aop P T s.tm o s.H = some r) (h : ARes P T n o.dst s.tm (AOps P T n ops l K) r) : AOps P T n ops (o :: l) K s := by
  refine aops_cons ?_
  unfold AStep
  rw [hw, ha]
  obtain ⟨x, H⟩ := r
  cases x <;> exact h
theorem aops_off {K : St → Prop} {o : Oper} {l : List Oper} {tm' : Tr Value} (hw : awanted ops s.tm o = false) (hd : dput n s.tm o.dst undef = some tm') (h : AOps P T n ops l K ⟨tm', s.H⟩) : AOps P T n ops (o :: l) K s := by
  refine aops_cons ?_
  unfold AStep
  rw [hw]
  simp only [cond_false]
  unfold APut
  rw [hd]
  exact h
theorem aput_k {K : St → Prop} {dst : Option Tmp} {v : Value} {tm tm' : Tr Value} {H : Heap} (hd : dput n tm dst v = some tm') (h : K ⟨tm', H⟩) : APut n dst v tm H K := by
  unfold APut
  rw [hd]
  exact h
theorem ares_val {K : St → Prop} {dst : Option Tmp} {v : Value} {tm tm' : Tr Value} {H : Heap} (hd : dput n tm dst v = some tm') (h : K ⟨tm', H⟩) : ARes P T n dst tm K (.val v, H) := aput_k hd h
theorem ares_skip {K : St → Prop} {dst : Option Tmp} {tm tm' : Tr Value} {H : Heap} (hd : dput n tm dst undef = some tm') (h : K ⟨tm', H⟩) : ARes P T n dst tm K (.skip, H) := aput_k hd h
theorem ares_call {K : St → Prop} {dst : Option Tmp} {tm : Tr Value} {H : Heap} {f : FuncId} {args : Array Value} (h : ACall P T f args H fun v H' => APut n dst v tm H' K) : ARes P T n dst tm K (.enter f args, H) := h
theorem then_normal {K : St → Prop} (h : K s) : Xt.then K Q .normal s := h
theorem then_ret {K : St → Prop} (h : Q .ret s) : Xt.then K Q .ret s := h
theorem then_exit {K : St → Prop} {i : Nat} (h : Q (.exit i) s) : Xt.then K Q (.exit i) s := h
theorem blk_normal {id : Nat} (h : Q .normal s) : Xt.inBlock id Q .normal s := h
theorem blk_ret {id : Nat} (h : Q .ret s) : Xt.inBlock id Q .ret s := h
theorem blk_hit {id : Nat} (h : Q .normal s) : Xt.inBlock id Q (.exit id) s := by
  show (bif id.beq id then Q .normal s else Q (.exit id) s)
  rw [Nat.beq_refl]; exact h
theorem blk_miss {id i : Nat} (hi : i.beq id = false) (h : Q (.exit i) s) : Xt.inBlock id Q (.exit i) s := by
  show (bif i.beq id then Q .normal s else Q (.exit i) s)
  rw [hi]; exact h
attribute [irreducible] Kt
/-- The states of a region, one by one. -/
def ATr (P : Program) (T : Tab) (n : Nat) (ops : Array Oper) : List Oper → List St → (List St → St → Prop) → St → Prop
  | [], acc, Q, s => Q (acc ++ [s]) s
  | o :: l, acc, Q, s => AStep P T n ops o (ATr P T n ops l (acc ++ [s]) Q) s
theorem ATr.spec : ∀ (l : List Oper) (acc : List St) (Q : List St → St → Prop) (s : St), ATr P T n ops l acc Q s → ∃ k r s', evTrace P T n (evCall P T k) ops l s = some r ∧ r.getLast? = some s' ∧ Q (acc ++ r) s' := by
  intro l
  induction l with
  | nil => intro acc Q s h; exact ⟨0, [s], s, rfl, rfl, h⟩
  | cons o l ih =>
    intro acc Q s h
    obtain ⟨k, s1, h1, h2⟩ := AStep.spec (show AStep P T n ops o (ATr P T n ops l (acc ++ [s]) Q) s from h)
    obtain ⟨k', r, s', h3, h4, h5⟩ := ih _ _ _ h2
    refine ⟨max k k', s :: r, s', ?_, ?_, by simpa using h5⟩
    · simp only [evTrace, step1_le (evCall_le (Nat.le_max_left k k')) h1, evTrace_le (evCall_le (Nat.le_max_right k k')) _ _ _ h3]
    · rw [List.getLast?_cons, h4]; rfl
theorem aw_draw {id : Nat} {l : List Oper} (h : ATr P T n l.toArray l [] (fun r s' => (loose T l.toArray).all (steady T l.toArray r) = true ∧ Q .normal s') s) : Aw P T n (.region id l.toArray true) Q s := by
  obtain ⟨k, r, s', h1, h2, h3, h4⟩ := ATr.spec _ _ _ _ h
  refine ⟨k + 1, .normal, s', ?_, h4⟩
  rw [evCode_region]
  simp only [evRegion, cond_true]
  cases hl : loose T l.toArray with
  | nil =>
    obtain ⟨_, _, _, s2, g1, g2⟩ := evTrace_spec _ _ _ h1
    rw [h2] at g1; cases g1
    simp only [g2]
  | cons p ps =>
    simp only [h1]
    rw [hl] at h3
    simp only [List.nil_append] at h3
    simp only [h3, cond_true, h2]
/-- A step that leaves memory as it is. -/
def isLoad : Op → Bool | .load .. => true | _ => false
def isConv : Op → Bool | .convert .. => true | _ => false
def Looks (T : Tab) (tm : Tr Value) (o : Oper) (H : Heap) : Prop := ∃ x u v, lookArg o.op = some x ∧ aeval tm x = some u ∧ alook T o.op u H = some v ∧ veq v v = true
def AStepC (P : Program) (T : Tab) (n : Nat) (ops : Array Oper) (o : Oper) (Q : St → Prop) (s : St) : Prop :=
  bif awanted ops s.tm o then
    match aop P T s.tm o s.H with
    | some (.val v, H) => H = s.H ∧ ((isLoad o.op = true → veq v v = true) ∧ (isConv o.op = true → cls T o.op = .look → Looks T s.tm o s.H)) ∧ APut n o.dst v s.tm s.H Q
    | some (.enter f args, H) => H = s.H ∧ (match T.orc f args.toList with | some v => APut n o.dst v s.tm s.H Q | none => False)
    | _ => False
  else APut n o.dst undef s.tm s.H Q
def AOpsC (P : Program) (T : Tab) (n : Nat) (ops : Array Oper) : List Oper → (St → Prop) → St → Prop
  | [], Q, s => Q s
  | o :: l, Q, s => AStepC P T n ops o (AOpsC P T n ops l Q) s
theorem aopsC_nil {P : Program} {T : Tab} {n : Nat} {ops : Array Oper} {s : St} {K : St → Prop} (h : K s) : AOpsC P T n ops [] K s := h
theorem aopsC_cons {P : Program} {T : Tab} {n : Nat} {ops : Array Oper} {s : St} {K : St → Prop} {o : Oper} {l : List Oper} (h : AStepC P T n ops o (AOpsC P T n ops l K) s) : AOpsC P T n ops (o :: l) K s := h
theorem aopsC_val {P : Program} {T : Tab} {n : Nat} {ops : Array Oper} {s : St} {K : St → Prop} {o : Oper} {l : List Oper} {v : Value} {tm' : Tr Value} (hw : awanted ops s.tm o = true) (ha : aop P T s.tm o s.H = some (.val v, s.H)) (hv : isLoad o.op = false ∨ veq v v = true)
    (hd : dput n s.tm o.dst v = some tm') (h : AOpsC P T n ops l K ⟨tm', s.H⟩) (hc : isConv o.op = false := by kernel_rfl) : AOpsC P T n ops (o :: l) K s := by
  refine aopsC_cons ?_
  unfold AStepC
  rw [hw, ha]
  refine ⟨rfl, ⟨fun e => hv.elim (fun e' => by rw [e'] at e; cases e) id, fun e => by rw [hc] at e; cases e⟩, ?_⟩
  unfold APut
  rw [hd]
  exact h
theorem aopsC_conv {P : Program} {T : Tab} {n : Nat} {ops : Array Oper} {s : St} {K : St → Prop} {o : Oper} {l : List Oper} {v : Value} {tm' : Tr Value} (hw : awanted ops s.tm o = true) (ha : aop P T s.tm o s.H = some (.val v, s.H)) (hv : isLoad o.op = false) (hlk : cls T o.op = .look → Looks T s.tm o s.H)
    (hd : dput n s.tm o.dst v = some tm') (h : AOpsC P T n ops l K ⟨tm', s.H⟩) : AOpsC P T n ops (o :: l) K s := by
  refine aopsC_cons ?_
  unfold AStepC
  rw [hw, ha]
  refine ⟨rfl, ⟨fun e => (by rw [hv] at e; cases e), fun _ => hlk⟩, ?_⟩
  unfold APut
  rw [hd]
  exact h
theorem aopsC_call {P : Program} {T : Tab} {n : Nat} {ops : Array Oper} {s : St} {K : St → Prop} {o : Oper} {l : List Oper} {v : Value} {tm' : Tr Value} {f : FuncId} {args : Array Value} (hw : awanted ops s.tm o = true) (ha : aop P T s.tm o s.H = some (.enter f args, s.H)) (ho : T.orc f args.toList = some v)
    (hd : dput n s.tm o.dst v = some tm') (h : AOpsC P T n ops l K ⟨tm', s.H⟩) : AOpsC P T n ops (o :: l) K s := by
  refine aopsC_cons ?_
  unfold AStepC
  rw [hw, ha]
  simp only [cond_true, ho]
  refine ⟨True.intro, ?_⟩
  unfold APut
  rw [hd]
  exact h
theorem aopsC_off {P : Program} {T : Tab} {n : Nat} {ops : Array Oper} {s : St} {K : St → Prop} {o : Oper} {l : List Oper} {tm' : Tr Value} (hw : awanted ops s.tm o = false) (hd : dput n s.tm o.dst undef = some tm') (h : AOpsC P T n ops l K ⟨tm', s.H⟩) : AOpsC P T n ops (o :: l) K s := by
  refine aopsC_cons ?_
  unfold AStepC
  rw [hw]
  simp only [cond_false]
  unfold APut
  rw [hd]
  exact h
theorem AStepC.spec {o : Oper} {Q : St → Prop} (h : AStepC P T n ops o Q s) : ∃ s', step1 P T n (evCall P T 0) ops o s = some s' ∧ s'.H = s.H ∧ Q s' ∧
    (awanted ops s.tm o = true → cls T o.op = .look → Looks T s.tm o s.H) := by
  unfold AStepC at h
  unfold step1
  cases hw : awanted ops s.tm o
  · rw [hw] at h
    obtain ⟨s', h1, h2⟩ := APut.spec h
    have hH : s'.H = s.H := by unfold fin at h1; split at h1 <;> cases h1; rfl
    exact ⟨s', h1, hH, h2, fun e => by cases e⟩
  · rw [hw] at h
    simp only [cond_true] at h ⊢
    split at h
    · rename_i v H ha
      obtain ⟨rfl, h0, h⟩ := h
      obtain ⟨s', h1, h2⟩ := APut.spec h
      have hH : s'.H = s.H := by unfold fin at h1; split at h1 <;> cases h1; rfl
      refine ⟨s', by simp only [ha, h1], hH, h2, fun _ hlk => ?_⟩
      rcases look_op hlk with ⟨t, x, hop⟩ | ⟨sd, dd, x, hop⟩
      · have hv := h0.1 (by rw [hop]; rfl)
        unfold aop at ha
        simp only [hop] at ha
        split at ha
        · rename_i u hu
          unfold val at ha
          split at ha
          · rename_i v0 hv0
            cases ha
            exact ⟨x, u, _, by rw [hop]; rfl, hu, by rw [hop]; exact hv0, hv⟩
          · cases ha
        · cases ha
      · exact h0.2 (by rw [hop]; rfl) hlk
    · rename_i f args H ha
      obtain ⟨rfl, h⟩ := h
      split at h
      · rename_i v hv
        obtain ⟨s', h1, h2⟩ := APut.spec h
        have hH : s'.H = s.H := by unfold fin at h1; split at h1 <;> cases h1; rfl
        refine ⟨s', by simp only [ha, evCall, hv, h1], hH, h2, fun _ hlk => ?_⟩
        rw [enter_act ha] at hlk
        cases hlk
      · exact h.elim
    · exact h.elim
theorem AOpsC.spec : ∀ (l : List Oper) (Q : St → Prop) (s : St), AOpsC P T n ops l Q s → ∃ r s', evTrace P T n (evCall P T 0) ops l s = some r ∧ r.getLast? = some s' ∧ Q s' ∧ (∀ x ∈ r, x.H = s.H) ∧
    (∀ (k : Nat) (o : Oper) (s1 : St), l[k]? = some o → r[k]? = some s1 → awanted ops s1.tm o = true → cls T o.op = .look → Looks T s1.tm o s1.H) := by
  intro l
  induction l with
  | nil => intro Q s h; exact ⟨[s], s, rfl, rfl, h, fun x hx => by simp at hx; rw [hx], fun k o s1 hk => by simp at hk⟩
  | cons o l ih =>
    intro Q s h
    obtain ⟨s1, h1, h2, h3, h4⟩ := AStepC.spec (show AStepC P T n ops o (AOpsC P T n ops l Q) s from h)
    obtain ⟨r, s', g1, g2, g3, g4, g5⟩ := ih _ _ h3
    refine ⟨s :: r, s', by simp only [evTrace, h1, g1], by rw [List.getLast?_cons, g2]; rfl, g3, fun x hx => ?_, fun k o' s2 hk hs => ?_⟩
    · rcases List.mem_cons.1 hx with rfl | hx
      · rfl
      · rw [g4 x hx, h2]
    · cases k with
      | zero =>
        simp at hk hs
        subst hk hs
        exact h4
      | succ k => exact g5 k o' s2 (by simpa using hk) (by simpa using hs)
theorem aw_drawC_k {id : Nat} {l : List Oper} (h : ∀ K : St → Prop, (∀ s, Q .normal s → K s) → AOpsC P T n l.toArray l K s) : Aw P T n (.region id l.toArray true) Q s := by
  obtain ⟨r, s', h1, h2, h3, h4, h5⟩ := AOpsC.spec _ _ _ (h _ fun _ h => h)
  refine ⟨1, .normal, s', ?_, h3⟩
  rw [evCode_region]
  obtain ⟨g1, g2, g3, s2, g4, g5⟩ := evTrace_spec _ _ _ h1
  rw [h2] at g4; cases g4
  have hst : (loose T l.toArray).all (steady T l.toArray r) = true := by
    rw [List.all_eq_true]
    intro p hp
    unfold steady
    obtain ⟨i, j⟩ := p
    have hij : i < l.length ∧ j < l.length := by
      unfold loose at hp
      rw [List.mem_flatMap] at hp
      obtain ⟨i', hi', hp⟩ := hp
      obtain ⟨j', hj', hp⟩ := List.mem_filterMap.1 hp
      have : i = i' ∧ j = j' := by
        split at hp
        · revert hp; generalize i'.blt j' = b1; intro hp
          cases b1 <;> simp only [cond_false, cond_true] at hp
          · revert hp; generalize Nat.testBit _ _ = b2; intro hp; cases b2 <;> simp only [cond_false, cond_true] at hp <;> cases hp; exact ⟨rfl, rfl⟩
          · revert hp; generalize Nat.testBit _ _ = b2; intro hp; cases b2 <;> simp only [cond_false, cond_true] at hp <;> cases hp; exact ⟨rfl, rfl⟩
        · cases hp
      obtain ⟨rfl, rfl⟩ := this
      simp at hi' hj'
      exact ⟨hi', hj'⟩
    have e1 : r[i]? = some (r[i]'(by omega)) := List.getElem?_eq_getElem _
    have e2 : l.toArray[i]? = some l[i] := by simp [hij.1]
    have e3 : r[j]? = some (r[j]'(by omega)) := List.getElem?_eq_getElem _
    have e4 : r[j + 1]? = some (r[j + 1]'(by omega)) := List.getElem?_eq_getElem _
    have m1 := h4 _ (List.getElem_mem (by omega : i < r.length))
    have m2 := h4 _ (List.getElem_mem (by omega : j < r.length))
    have m3 := h4 _ (List.getElem_mem (by omega : j + 1 < r.length))
    simp only [e1, e2, e3, e4]
    cases hw : awanted l.toArray (r[i]'(by omega)).tm l[i]
    · rfl
    · simp only [cond_true]
      have hs1 := g3 i l[i] _ (by simp [hij.1]) e1
      obtain ⟨s3, _, hs3⟩ := hs1
      have hlook : cls T (l[i]).op = .look := by
        unfold loose at hp
        rw [List.mem_flatMap] at hp
        obtain ⟨i', hi', hp⟩ := hp
        obtain ⟨j', hj', hp⟩ := List.mem_filterMap.1 hp
        split at hp
        · rename_i c1 c2
          have : i = i' := by
            revert hp; generalize i'.blt j' = b1; intro hp
            cases b1 <;> simp only [cond_false, cond_true] at hp
            · revert hp; generalize Nat.testBit _ _ = b2; intro hp; cases b2 <;> simp only [cond_false, cond_true] at hp <;> cases hp; rfl
            · revert hp; generalize Nat.testBit _ _ = b2; intro hp; cases b2 <;> simp only [cond_false, cond_true] at hp <;> cases hp; rfl
          subst this
          rw [e2] at c1
          simp only [Option.map_some, Option.some.injEq] at c1
          exact c1
        · cases hp
      obtain ⟨x, u, v, k1, k2, k3, k4⟩ := h5 i l[i] _ (by simp [hij.1]) e1 hw hlook
      have hl1 := k3
      rw [m1] at k3
      simp only [k1, k2, hl1, m2, m3, k3, k4, Bool.and_self]
  simp only [evRegion, cond_true]
  cases hl : loose T l.toArray with
  | nil => simp only [g5]
  | cons p ps =>
    rw [hl] at hst
    simp only [h1, hst, cond_true, h2]
/-- A call, by its body. -/
def bodyQ (T : Tab) (rs : Array ResultVar) (R : Value → Heap → Prop) : Xt → St → Prop
  | .normal, s => ∃ v, aresults T s.tm s.H rs = some v ∧ R v s.H
  | .ret, s => ∃ v, aresults T s.tm s.H rs = some v ∧ R v s.H
  | .exit _, _ => False
theorem acall_orc {f : FuncId} {args : Array Value} {H : Heap} {R : Value → Heap → Prop} {v : Value} (h : T.orc f args.toList = some v) (hr : R v H) : ACall P T f args H R :=
  ⟨0, v, H, by unfold evCall; simp only [h], hr⟩
theorem bodyQ_ret {rs : Array ResultVar} {R : Value → Heap → Prop} {s : St} (h : ∃ v, aresults T s.tm s.H rs = some v ∧ R v s.H) : bodyQ T rs R .ret s := h
theorem bodyQ_normal {rs : Array ResultVar} {R : Value → Heap → Prop} {s : St} (h : ∃ v, aresults T s.tm s.H rs = some v ∧ R v s.H) : bodyQ T rs R .normal s := h
theorem acall_mor {f : FuncId} {args : Array Value} {H : Heap} {R : Value → Heap → Prop} {v : Value} {H' : Heap} (ho : T.orc f args.toList = none) (hf : T.fn f = none) (h : T.mor f args.toList H = some (v, H')) (hr : R v H') : ACall P T f args H R := by
  unfold ACall
  exact ⟨0, v, H', by unfold evCall; simp only [ho]; rw [evCall_eq]; simp only [hf, h], hr⟩
theorem acall_of {f : FuncId} {fn : Func} {c : Code} {args : Array Value} {H : Heap} {R : Value → Heap → Prop} (ho : T.orc f args.toList = none) (hf : T.fn f = some fn) (hb : fn.body = some c)
    (h : Aw P T (args.size + (fn.ntmps - args.size)) c (bodyQ T fn.results R) ⟨initTm 0 args, H⟩) : ACall P T f args H R := by
  obtain ⟨k, x, s', h1, h2⟩ := h
  cases x with
  | normal =>
    obtain ⟨v, h3, h4⟩ := h2
    exact ⟨k, v, _, by unfold evCall; simp only [ho]; rw [evCall_eq]; simp only [hf, hb, h1, h3], h4⟩
  | ret =>
    obtain ⟨v, h3, h4⟩ := h2
    exact ⟨k, v, _, by unfold evCall; simp only [ho]; rw [evCall_eq]; simp only [hf, hb, h1, h3], h4⟩
  | exit i => exact h2.elim
theorem acall_of' {f : FuncId} {fn : Func} {c : Code} {args : Array Value} {H : Heap} {R : Value → Heap → Prop} (m : Nat) (tm : Tr Value) (ho : T.orc f args.toList = none) (hf : T.fn f = some fn) (hb : fn.body = some c) (hm : args.size + (fn.ntmps - args.size) = m) (ht : initTm 0 args = tm)
    (h : Aw P T m c (bodyQ T fn.results R) ⟨tm, H⟩) : ACall P T f args H R := by
  subst hm ht
  exact acall_of ho hf hb h
end
attribute [irreducible] Xt.then Xt.inBlock
/-- **From here to the model.** -/
theorem ACall.calls [Bs] {P : Program} {T : Tab} (hP : ProgOk P T) {f : FuncId} {args : Array Value} {H : Heap} {R : Value → Heap → Prop} (h : ACall P T f args H R) (hwf : HWf H) {m : Map} {w : World} {args' : Array Value}
    (hr : Rep P m H w) (hargs : VRs m args.toList args'.toList) : Calls P f args' w fun e w' => ∃ v H', R v H' ∧ CallPost P m H w v H' e w' := by
  obtain ⟨k, v, H', h1, h2⟩ := h
  exact (evCall_sound hP h1 hwf hr hargs).mono fun e w' he => ⟨v, H', h2, he⟩
attribute [irreducible] Aw AOps AOpsC ACall ARes APut
theorem codeOk_orc (T : Tab) (g : FuncId → List Value → Option Value) (c : Code) : codeOk { T with orc := g } c = codeOk T c := by
  induction c with
  | region id ops draw => rfl
  | seq a b iha ihb => simp only [codeOk, iha, ihb]
  | cond x a b iha ihb => simp only [codeOk, iha, ihb]
  | block id c ih => simp only [codeOk, ih]
  | loop c ih => simp only [codeOk, ih]
  | scope c ih => simp only [codeOk, ih]
  | _ => rfl
/-- Calls that are known besides. -/
theorem ProgOk.withOrc [Bs] {P : Program} {T : Tab} (h : ProgOk P T) (g : FuncId → List Value → Option Value)
    (hg : ∀ f args v, g f args = some v → closed v = true ∧ args.all closed = true ∧ ∀ w : World, OnBs w → Calls P f args.toArray w fun e w' => e = .returned v ∧ Quiet w w') : ProgOk P { T with orc := g } where
  tab := ⟨h.tab.under, h.tab.size, h.tab.bytes, h.tab.zero⟩
  fns := ⟨h.fns.fn, h.fns.has⟩
  code := fun f fn c hf hb => by rw [codeOk_orc]; exact h.code f fn c hf hb
  mixed := h.mixed
  orc := hg
  mor := h.mor
theorem codeOk_mor (T : Tab) (g : FuncId → Option Func) (k : FuncId → List Value → Heap → Option (Value × Heap)) (q : FuncId → Bool) (c : Code) : codeOk { T with fn := g, mor := k, has := q } c = codeOk T c := by
  induction c with
  | region id ops draw => rfl
  | seq a b iha ihb => simp only [codeOk, iha, ihb]
  | cond x a b iha ihb => simp only [codeOk, iha, ihb]
  | block id c ih => simp only [codeOk, ih]
  | loop c ih => simp only [codeOk, ih]
  | scope c ih => simp only [codeOk, ih]
  | _ => rfl
/-- What a call that gives data, and changes nothing that was there, comes to. -/
theorem post_quiet [Bs] {P : Program} {m : Map} {H : Heap} {w : World} {v : Value} (hr : Rep P m H w) (h1 : closed v = true) {e : Ending} {w' : World} (he : e = .returned v ∧ Quiet w w') : CallPost P m H w v H e w' := by
  obtain ⟨rfl, hq⟩ := he
  refine ⟨v, m, rfl, VR.of_closed h1, ⟨⟨hr.dom, fun b L o hb ho => ?_, hr.inj⟩, ⟨⟨Nat.le_trans hr.bas.ksz hq.size, fun c hc => (hq.block c (Nat.lt_of_lt_of_le hc hr.bas.ksz)).trans (hr.bas.low c hc)⟩, hr.bas.own⟩⟩, hq.os, hq.tape, hq.output, hq.size, fun c hc _ => hq.block c hc, Map.le_refl m, Nat.le_refl _, fun _ _ h => .inl h, fun _ _ h k => .inl ⟨h, k⟩, fun _ _ h => h, fun _ _ h => h, fun _ _ _ => rfl⟩
  have hbk := hr.blk b L o hb ho
  exact hbk.mono (Map.le_refl m) (hq.block _ hbk.lt)
/-- A call is not walked: what it answers of what lies in memory, and what lies there behind it, is known. -/
theorem ProgOk.withMorH [Bs] {P : Program} {T : Tab} (h : ProgOk P T) (f0 : FuncId) (hh : (T.fn f0).isSome = true) (sp : List Value → Heap → Option (Value × Heap))
    (hs : ∀ (args : Array Value) H v H', sp args.toList H = some (v, H') → Grows H H' ∧ ∀ (m : Map) (w : World) (args' : Array Value), HWf H → Rep P m H w → VRs m args.toList args'.toList → Calls P f0 args' w (CallPost P m H w v H')) :
    ProgOk P { T with fn := fun f => bif Nat.beq f f0 then none else T.fn f, mor := fun f l H => bif Nat.beq f f0 then sp l H else T.mor f l H, has := fun f => bif Nat.beq f f0 then true else T.has f } where
  tab := ⟨h.tab.under, h.tab.size, h.tab.bytes, h.tab.zero⟩
  fns := ⟨(fun f fn hf => by
    have hf : (bif Nat.beq f f0 then none else T.fn f) = some fn := hf
    cases hb : Nat.beq f f0
    · rw [hb] at hf; exact h.fns.fn f fn hf
    · rw [hb] at hf; cases hf), (fun f hf => by
    have hf : (bif Nat.beq f f0 then true else T.has f) = true := hf
    cases hb : Nat.beq f f0
    · rw [hb] at hf; exact h.fns.has f hf
    · have he := Nat.eq_of_beq_eq_true hb
      subst he
      obtain ⟨fn, hfn⟩ := Option.isSome_iff_exists.1 hh
      exact ⟨fn, h.fns.fn f fn hfn⟩)⟩
  code := fun f fn c hf hb => by
    have hf : (bif Nat.beq f f0 then none else T.fn f) = some fn := hf
    rw [codeOk_mor]
    cases hb' : Nat.beq f f0
    · rw [hb'] at hf; exact h.code f fn c hf hb
    · rw [hb'] at hf; cases hf
  mixed := h.mixed
  orc := h.orc
  mor := fun f args H v H' hv => by
    have hv2 : (bif Nat.beq f f0 then sp args.toList H else T.mor f args.toList H) = some (v, H') := hv
    clear hv
    cases hb : Nat.beq f f0
    · rw [hb] at hv2; exact h.mor f args H v H' hv2
    · rw [hb] at hv2
      have he := Nat.eq_of_beq_eq_true hb
      subst he
      exact hs args H v H' hv2
/-- Memory as it was, beside what is answered. -/
def same (sp : List Value → Heap → Option Value) (l : List Value) (H : Heap) : Option (Value × Heap) := match sp l H with
  | some v => some (v, H)
  | none => none
theorem same_of {sp : List Value → Heap → Option Value} {l : List Value} {H : Heap} {v : Value} (h : sp l H = some v) : same sp l H = some (v, H) := by unfold same; rw [h]
/-- A call is not walked: what it answers of what lies in memory is known. -/
theorem ProgOk.withMor [Bs] {P : Program} {T : Tab} (h : ProgOk P T) (f0 : FuncId) (hh : (T.fn f0).isSome = true) (sp : List Value → Heap → Option Value)
    (hs : ∀ (args : Array Value) H v, sp args.toList H = some v → closed v = true ∧ ∀ (m : Map) (w : World) (args' : Array Value), HWf H → Rep P m H w → VRs m args.toList args'.toList → Calls P f0 args' w fun e w' => e = .returned v ∧ Quiet w w') :
    ProgOk P { T with fn := fun f => bif Nat.beq f f0 then none else T.fn f, mor := fun f l H => bif Nat.beq f f0 then same sp l H else T.mor f l H, has := fun f => bif Nat.beq f f0 then true else T.has f } :=
  h.withMorH f0 hh (same sp) fun args H v H' hv => by
    unfold same at hv
    split at hv
    · rename_i v0 h0
      cases hv
      obtain ⟨h1, h2⟩ := hs args H v h0
      exact ⟨Grows.refl H, fun m w args' hwf hr ha => (h2 m w args' hwf hr ha).mono fun e w' he => post_quiet hr h1 he⟩
    · cases hv
theorem Quiet.of_below {w w' : World} (h : RowKit.Below w.heap.size w w') : Quiet w w' := ⟨h.os, h.tape, h.output, h.size, h.block⟩
theorem Quiet.refl (w : World) : Quiet w w := ⟨rfl, rfl, rfl, Nat.le_refl _, fun _ _ => rfl⟩
/-- Memory goes on: nothing that was there is another. -/
structure Ext (H H' : Heap) : Prop where
  n : H.n ≤ H'.n
  get : ∀ b, b < H.n → H'.get b = H.get b
theorem Ext.refl (H : Heap) : Ext H H := ⟨Nat.le_refl _, fun _ _ => rfl⟩
theorem Ext.trans {a b c : Heap} (h : Ext a b) (k : Ext b c) : Ext a c := ⟨Nat.le_trans h.n k.n, fun x hx => (k.get x (Nat.lt_of_lt_of_le hx h.n)).trans (h.get x hx)⟩
theorem Ext.push {a b : Heap} (h : Ext a b) (o : Ob) : Ext a (b.push o) := ⟨Nat.le_trans h.n (by simp [Heap.n_push]), fun x hx => by rw [Heap.get_push, if_neg (by have := h.n; omega)]; exact h.get x hx⟩
theorem Ext.put {a b : Heap} (h : Ext a b) {x : Nat} (hx : a.n ≤ x) (o : Ob) : Ext a (b.put x o) := ⟨h.n, fun y hy => by rw [Heap.get_put, if_neg (by omega)]; exact h.get y hy⟩
theorem Ext.kill {a b : Heap} (h : Ext a b) {x : Nat} (hx : a.n ≤ x) : Ext a (b.kill x) := ⟨h.n, fun y hy => by rw [Heap.get_kill, if_neg (by omega)]; exact h.get y hy⟩
/-- A call without arguments that answers true, run by the evaluator. -/
def isTrue : Option (Value × Heap) → Bool
  | some (.bool true, _) => true
  | _ => false
theorem true_calls [Bs] {P : Program} {T : Tab} (hP : ProgOk P T) {k : Nat} {f : FuncId} (h : isTrue (evCall P T k f #[] ⟨.lf, 0⟩) = true) (w : World) (hw : OnBs w) : Calls P f #[] w fun e w' => e = .returned (.bool true) ∧ Quiet w w' := by
  unfold isTrue at h
  split at h
  · rename_i H' he
    have hwf : HWf ⟨.lf, 0⟩ := fun b hb => by simp [Heap.get, Tr.get] at hb
    have hr : Rep P (fun _ => none) ⟨.lf, 0⟩ w := ⟨⟨fun b L hb => (by cases hb), fun b L o hb => (by cases hb), fun b1 b2 L1 L2 hb => (by cases hb)⟩, ⟨hw, fun b L hb => (by cases hb)⟩⟩
    refine (evCall_sound hP he hwf hr VRs.nil).mono fun e w' hp => ?_
    obtain ⟨v', m', rfl, hv, _, hf⟩ := hp
    rw [hv.plain_eq rfl]
    exact ⟨rfl, hf.os, hf.tape, hf.output, hf.size, fun c hc => hf.keep c hc (by rintro ⟨b, L, hb, _⟩; cases hb)⟩
  · cases h
/-! Numbers by decision -/
theorem blt_dec (a b : Nat) : a.blt b = decide (a < b) := by
  cases h : a.blt b
  · have : ¬ a < b := fun e => by rw [show a.blt b = true from (by simpa [Nat.blt_eq] using e)] at h; cases h
    simp [this]
  · have : a < b := by simpa [Nat.blt_eq] using h
    simp [this]
theorem ble_dec (a b : Nat) : a.ble b = decide (a ≤ b) := by
  cases h : a.ble b
  · have : ¬ a ≤ b := fun e => by rw [Nat.ble_eq_true_of_le e] at h; cases h
    simp [this]
  · have := Nat.le_of_ble_eq_true h
    simp [this]
theorem beq_dec (a b : Nat) : a.beq b = decide (a = b) := by
  cases h : a.beq b
  · have : ¬ a = b := fun e => by subst e; simp at h
    simp [this]
  · have := Nat.eq_of_beq_eq_true h
    simp [this]
end Go.Ev
/- Words that are not known: pieces of bits, one behind the other. -/
namespace Go.Ev
open Go
set_option linter.unusedVariables false
set_option linter.unusedSimpArgs false
/-- A piece of bits, the lowest first: a number's, an unknown's, an operation's. -/
inductive Seg where
  | k (n w : Nat)
  | v (i o w : Nat)
  | g (op : BinOp) (q : IntKind) (a b : List Seg) (o w : Nat)
  | d (a b : List Seg) (o w : Nat)
  | p (a b : List Seg) (o w : Nat)
abbrev W := List Seg
/-- What an operation makes of two numbers. -/
def gZ (op : BinOp) (q : IntKind) (a b : Nat) : Int := match (bif isShift op then ishift op q a b else ibin op q a b) with
  | some (.int _ z) => z
  | _ => 0
def Seg.w : Seg → Nat
  | .k _ w => w
  | .v _ _ w => w
  | .g _ _ _ _ _ w => w
  | .d _ _ _ w => w
  | .p _ _ _ w => w
section
variable (ρ : Nat → Nat)
mutual
def Seg.val : Seg → Nat
  | .k n w => n % 2 ^ w
  | .v i o w => ρ i / 2 ^ o % 2 ^ w
  | .g op q a b o w => (gZ op q (evW a) (evW b)).toNat / 2 ^ o % 2 ^ w
  | .d a b o w => (evW a - evW b) / 2 ^ o % 2 ^ w
  | .p a b o w => (evW a + evW b) / 2 ^ o % 2 ^ w
def evW : List Seg → Nat
  | [] => 0
  | s :: r => s.val + 2 ^ s.w * evW r
end
end
/-- The first of a piece's bits; the others. -/
def Seg.take (t : Nat) : Seg → Seg
  | .k n w => .k (n % 2 ^ t) t
  | .v i o w => .v i o t
  | .g op q a b o w => .g op q a b o t
  | .d a b o w => .d a b o t
  | .p a b o w => .p a b o t
def Seg.drop (t : Nat) : Seg → Seg
  | .k n w => .k (n % 2 ^ w / 2 ^ t) (w - t)
  | .v i o w => .v i (o + t) (w - t)
  | .g op q a b o w => .g op q a b (o + t) (w - t)
  | .d a b o w => .d a b (o + t) (w - t)
  | .p a b o w => .p a b (o + t) (w - t)
theorem Seg.val_lt (ρ : Nat → Nat) (s : Seg) : s.val ρ < 2 ^ s.w := by
  cases s <;> simp only [Seg.val, Seg.w] <;> exact Nat.mod_lt _ (Nat.two_pow_pos _)
theorem Seg.w_take (t : Nat) (s : Seg) : (s.take t).w = t := by cases s <;> rfl
theorem Seg.w_drop (t : Nat) (s : Seg) : (s.drop t).w = s.w - t := by cases s <;> rfl
theorem mod_take (x w t : Nat) (h : t ≤ w) : x % 2 ^ t = x % 2 ^ w % 2 ^ t := (Nat.mod_mod_of_dvd x (Nat.pow_dvd_pow 2 h)).symm
theorem Seg.val_take (ρ : Nat → Nat) {t : Nat} {s : Seg} (h : t ≤ s.w) : (s.take t).val ρ = s.val ρ % 2 ^ t := by
  cases s <;> simp only [Seg.take, Seg.val, Seg.w] at h ⊢ <;> first | exact mod_take _ _ _ h | (rw [Nat.mod_mod]; exact mod_take _ _ _ h)
theorem mod_drop (x o w t : Nat) (h : t ≤ w) : x / 2 ^ (o + t) % 2 ^ (w - t) = x / 2 ^ o % 2 ^ w / 2 ^ t := by
  rw [Nat.pow_add, ← Nat.div_div_eq_div_mul]
  generalize x / 2 ^ o = y
  have : 2 ^ w = 2 ^ t * 2 ^ (w - t) := by rw [← Nat.pow_add]; congr 1; omega
  rw [this, Nat.mod_mul_right_div_self]
theorem Seg.val_drop (ρ : Nat → Nat) {t : Nat} {s : Seg} (h : t ≤ s.w) : (s.drop t).val ρ = s.val ρ / 2 ^ t := by
  cases s <;> simp only [Seg.drop, Seg.val, Seg.w] at h ⊢
  case k n w =>
    have := mod_drop n 0 w t h
    simp only [Nat.zero_add, Nat.pow_zero, Nat.div_one] at this
    rw [← this, Nat.mod_mod]
  all_goals exact mod_drop _ _ _ _ h
/-! Are two the same, as they are written? -/
mutual
def Seg.eq : Seg → Seg → Bool
  | .k n w, .k m u => n.beq m && w.beq u
  | .v i o w, .v j o' u => i.beq j && o.beq o' && w.beq u
  | .g op q a b o w, .g op' q' a' b' o' u => decide (op = op') && decide (q = q') && o.beq o' && w.beq u && wEq a a' && wEq b b'
  | .d a b o w, .d a' b' o' u => o.beq o' && w.beq u && wEq a a' && wEq b b'
  | .p a b o w, .p a' b' o' u => o.beq o' && w.beq u && wEq a a' && wEq b b'
  | _, _ => false
def wEq : List Seg → List Seg → Bool
  | [], [] => true
  | s :: r, t :: u => s.eq t && wEq r u
  | _, _ => false
end
mutual
theorem Seg.eq_sound : ∀ (s t : Seg), s.eq t = true → s = t
  | .k n w, t, h => by cases t <;> simp only [Seg.eq, Bool.and_eq_true, Nat.beq_eq] at h <;> first | (cases h; done) | skip
                       obtain ⟨rfl, rfl⟩ := h; rfl
  | .v i o w, t, h => by cases t <;> simp only [Seg.eq, Bool.and_eq_true, Nat.beq_eq] at h <;> first | (cases h; done) | skip
                         obtain ⟨⟨rfl, rfl⟩, rfl⟩ := h; rfl
  | .g op q a b o w, t, h => by
    cases t <;> simp only [Seg.eq, Bool.and_eq_true, Nat.beq_eq, decide_eq_true_eq] at h <;> first | (cases h; done) | skip
    obtain ⟨⟨⟨⟨⟨rfl, rfl⟩, rfl⟩, rfl⟩, h1⟩, h2⟩ := h
    rw [wEq_sound _ _ h1, wEq_sound _ _ h2]
  | .d a b o w, t, h => by
    cases t <;> simp only [Seg.eq, Bool.and_eq_true, Nat.beq_eq, decide_eq_true_eq] at h <;> first | (cases h; done) | skip
    obtain ⟨⟨⟨rfl, rfl⟩, h1⟩, h2⟩ := h
    rw [wEq_sound _ _ h1, wEq_sound _ _ h2]
  | .p a b o w, t, h => by
    cases t <;> simp only [Seg.eq, Bool.and_eq_true, Nat.beq_eq, decide_eq_true_eq] at h <;> first | (cases h; done) | skip
    obtain ⟨⟨⟨rfl, rfl⟩, h1⟩, h2⟩ := h
    rw [wEq_sound _ _ h1, wEq_sound _ _ h2]
theorem wEq_sound : ∀ (s t : List Seg), wEq s t = true → s = t
  | [], [], _ => rfl
  | [], _ :: _, h => by simp [wEq] at h
  | _ :: _, [], h => by simp [wEq] at h
  | s :: r, t :: u, h => by
    simp only [wEq, Bool.and_eq_true] at h
    rw [Seg.eq_sound _ _ h.1, wEq_sound _ _ h.2]
end
/-- Two pieces that are one: the second goes on where the first ends. -/
def Seg.join : Seg → Seg → Option Seg
  | .k n w, .k m u => some (.k (n % 2 ^ w + 2 ^ w * (m % 2 ^ u)) (w + u))
  | .v i o w, .v j o' u => bif i.beq j && o'.beq (o + w) then some (.v i o (w + u)) else none
  | .g op q a b o w, .g op' q' a' b' o' u => bif o'.beq (o + w) && (decide (op = op') && decide (q = q') && wEq a a' && wEq b b') then some (.g op q a b o (w + u)) else none
  | .d a b o w, .d a' b' o' u => bif o'.beq (o + w) && (wEq a a' && wEq b b') then some (.d a b o (w + u)) else none
  | .p a b o w, .p a' b' o' u => bif o'.beq (o + w) && (wEq a a' && wEq b b') then some (.p a b o (w + u)) else none
  | _, _ => none
theorem mod_join (x o w u : Nat) : x / 2 ^ o % 2 ^ (w + u) = x / 2 ^ o % 2 ^ w + 2 ^ w * (x / 2 ^ (o + w) % 2 ^ u) := by
  rw [Nat.pow_add, Nat.pow_add, ← Nat.div_div_eq_div_mul, Nat.mod_mul]
theorem Seg.join_sound (ρ : Nat → Nat) {s t r : Seg} (h : s.join t = some r) : r.w = s.w + t.w ∧ r.val ρ = s.val ρ + 2 ^ s.w * t.val ρ := by
  unfold Seg.join at h
  split at h
  · cases h
    refine ⟨rfl, ?_⟩
    simp only [Seg.val, Seg.w]
    rename_i n w m u
    refine Nat.mod_eq_of_lt ?_
    have h1 : n % 2 ^ w < 2 ^ w := Nat.mod_lt _ (Nat.two_pow_pos _)
    have h2 : m % 2 ^ u < 2 ^ u := Nat.mod_lt _ (Nat.two_pow_pos _)
    rw [Nat.pow_add]
    calc n % 2 ^ w + 2 ^ w * (m % 2 ^ u) < 2 ^ w + 2 ^ w * (m % 2 ^ u) := by omega
      _ = 2 ^ w * (m % 2 ^ u + 1) := by rw [Nat.mul_add, Nat.mul_one, Nat.add_comm]
      _ ≤ 2 ^ w * 2 ^ u := Nat.mul_le_mul_left _ h2
  · rename_i i o w j o' u
    cases hb : i.beq j && o'.beq (o + w) <;> rw [hb] at h <;> cases h
    simp only [Bool.and_eq_true, Nat.beq_eq] at hb
    obtain ⟨rfl, rfl⟩ := hb
    exact ⟨rfl, mod_join _ _ _ _⟩
  · rename_i op q a b o w op' q' a' b' o' u
    cases hb : o'.beq (o + w) && (decide (op = op') && decide (q = q') && wEq a a' && wEq b b') <;> rw [hb] at h <;> cases h
    simp only [Bool.and_eq_true, Nat.beq_eq, decide_eq_true_eq] at hb
    obtain ⟨rfl, ⟨⟨rfl, rfl⟩, h1⟩, h2⟩ := hb
    obtain rfl := wEq_sound _ _ h1
    obtain rfl := wEq_sound _ _ h2
    exact ⟨rfl, mod_join _ _ _ _⟩
  · rename_i a b o w a' b' o' u
    cases hb : o'.beq (o + w) && (wEq a a' && wEq b b') <;> rw [hb] at h <;> cases h
    simp only [Bool.and_eq_true, Nat.beq_eq, decide_eq_true_eq] at hb
    obtain ⟨rfl, h1, h2⟩ := hb
    obtain rfl := wEq_sound _ _ h1
    obtain rfl := wEq_sound _ _ h2
    exact ⟨rfl, mod_join _ _ _ _⟩
  · rename_i a b o w a' b' o' u
    cases hb : o'.beq (o + w) && (wEq a a' && wEq b b') <;> rw [hb] at h <;> cases h
    simp only [Bool.and_eq_true, Nat.beq_eq, decide_eq_true_eq] at hb
    obtain ⟨rfl, h1, h2⟩ := hb
    obtain rfl := wEq_sound _ _ h1
    obtain rfl := wEq_sound _ _ h2
    exact ⟨rfl, mod_join _ _ _ _⟩
  · cases h
def isNo : Seg → Bool | .k n w => (n % 2 ^ w).beq 0 | _ => false
/-- A piece ahead of others. -/
def ncons (s : Seg) (r : W) : W := bif s.w.beq 0 then r else match r with
  | [] => bif isNo s then [] else [s]
  | t :: r => match s.join t with
    | some q => q :: r
    | none => s :: t :: r
theorem ncons_ev (ρ : Nat → Nat) (s : Seg) (r : W) : evW ρ (ncons s r) = s.val ρ + 2 ^ s.w * evW ρ r := by
  unfold ncons
  cases hw : s.w.beq 0
  · simp only [cond_false]
    cases r with
    | nil =>
      simp only
      cases hn : isNo s
      · rfl
      · unfold isNo at hn
        split at hn
        · simp only [Nat.beq_eq] at hn
          simp [evW, Seg.val, hn]
        · cases hn
    | cons t r =>
      simp only
      cases hj : s.join t with
      | none => rfl
      | some q =>
        obtain ⟨h1, h2⟩ := Seg.join_sound ρ hj
        simp only [evW]
        rw [h1, h2, Nat.pow_add, Nat.mul_add, Nat.mul_assoc, Nat.add_assoc]
  · have h0 : s.w = 0 := Nat.eq_of_beq_eq_true hw
    have h1 := Seg.val_lt ρ s
    rw [h0] at h1 ⊢
    have : s.val ρ = 0 := by omega
    simp [this]
def dropW : Nat → W → W
  | _, [] => []
  | o, s :: r => bif s.w.ble o then dropW (o - s.w) r else ncons (s.drop o) r
theorem add_mul_div (a b w o : Nat) (ha : a < 2 ^ w) (h : w ≤ o) : (a + 2 ^ w * b) / 2 ^ o = b / 2 ^ (o - w) := by
  have : 2 ^ o = 2 ^ w * 2 ^ (o - w) := by rw [← Nat.pow_add]; congr 1; omega
  rw [this, ← Nat.div_div_eq_div_mul, Nat.add_mul_div_left _ _ (Nat.two_pow_pos _), Nat.div_eq_of_lt ha, Nat.zero_add]
theorem add_mul_div' (a b w o : Nat) (h : o ≤ w) : (a + 2 ^ w * b) / 2 ^ o = a / 2 ^ o + 2 ^ (w - o) * b := by
  have : 2 ^ w = 2 ^ o * 2 ^ (w - o) := by rw [← Nat.pow_add]; congr 1; omega
  rw [this, Nat.mul_assoc, Nat.add_mul_div_left _ _ (Nat.two_pow_pos _)]
theorem dropW_ev (ρ : Nat → Nat) : ∀ (x : W) (o : Nat), evW ρ (dropW o x) = evW ρ x / 2 ^ o := by
  intro x
  induction x with
  | nil => intro o; simp [dropW, evW]
  | cons s r ih =>
    intro o
    simp only [dropW]
    cases h : s.w.ble o
    · have h : o ≤ s.w := by
        have : ¬ s.w ≤ o := fun q => by rw [Nat.ble_eq_true_of_le q] at h; cases h
        omega
      rw [cond_false, ncons_ev, Seg.val_drop ρ h, Seg.w_drop]
      simp only [evW]
      rw [add_mul_div' _ _ _ _ h]
    · have h := Nat.le_of_ble_eq_true h
      rw [cond_true, ih]
      simp only [evW]
      rw [add_mul_div _ _ _ _ (Seg.val_lt ρ s) h]
def takeW : Nat → W → W
  | _, [] => []
  | n, s :: r => bif n.ble s.w then ncons (s.take n) [] else ncons s (takeW (n - s.w) r)
theorem add_mul_mod (a b w n : Nat) (h : n ≤ w) : (a + 2 ^ w * b) % 2 ^ n = a % 2 ^ n := by
  have : 2 ^ w = 2 ^ n * 2 ^ (w - n) := by rw [← Nat.pow_add]; congr 1; omega
  rw [this, Nat.mul_assoc, Nat.add_mul_mod_self_left]
theorem add_mul_mod' (a b w n : Nat) (ha : a < 2 ^ w) (h : w ≤ n) : (a + 2 ^ w * b) % 2 ^ n = a + 2 ^ w * (b % 2 ^ (n - w)) := by
  have : 2 ^ n = 2 ^ w * 2 ^ (n - w) := by rw [← Nat.pow_add]; congr 1; omega
  rw [this, Nat.mod_mul, Nat.add_mul_mod_self_left, Nat.mod_eq_of_lt ha, Nat.add_mul_div_left _ _ (Nat.two_pow_pos _), Nat.div_eq_of_lt ha, Nat.zero_add]
theorem takeW_ev (ρ : Nat → Nat) : ∀ (x : W) (n : Nat), evW ρ (takeW n x) = evW ρ x % 2 ^ n := by
  intro x
  induction x with
  | nil => intro o; simp [takeW, evW]
  | cons s r ih =>
    intro n
    simp only [takeW]
    cases h : n.ble s.w
    · have h : s.w ≤ n := by
        have : ¬ n ≤ s.w := fun q => by rw [Nat.ble_eq_true_of_le q] at h; cases h
        omega
      rw [cond_false, ncons_ev, ih]
      simp only [evW]
      rw [add_mul_mod' _ _ _ _ (Seg.val_lt ρ s) h]
    · have h := Nat.le_of_ble_eq_true h
      rw [cond_true, ncons_ev, Seg.val_take ρ h]
      simp only [evW, Nat.mul_zero, Nat.add_zero]
      rw [add_mul_mod _ _ _ _ h]
/-- Bits of a word: so many, from a place on. -/
def cutW (o n : Nat) (x : W) : W := takeW n (dropW o x)
theorem cutW_ev (ρ : Nat → Nat) (o n : Nat) (x : W) : evW ρ (cutW o n x) = evW ρ x / 2 ^ o % 2 ^ n := by rw [cutW, takeW_ev, dropW_ev]
/-- A word moved up. -/
def upW (n : Nat) (x : W) : W := match x with
  | [] => []
  | _ => ncons (.k 0 n) x
theorem upW_ev (ρ : Nat → Nat) (n : Nat) (x : W) : evW ρ (upW n x) = evW ρ x * 2 ^ n := by
  unfold upW
  cases x with
  | nil => simp [evW]
  | cons s r => simp only; rw [ncons_ev]; simp [Seg.val, Seg.w, Nat.mul_comm]
/-- How many bits a number has. -/
def litW (n : Nat) : W := bif n.beq 0 then [] else [.k n (n.log2 + 1)]
theorem litW_ev (ρ : Nat → Nat) (n : Nat) : evW ρ (litW n) = n := by
  unfold litW
  cases h : n.beq 0
  · simp only [cond_false, evW, Seg.val, Nat.mul_zero, Nat.add_zero]
    exact Nat.mod_eq_of_lt Nat.lt_log2_self
  · have := Nat.eq_of_beq_eq_true h
    subst this; rfl
/-! Bounds -/
def isRem : BinOp → Bool | .rem => true | _ => false
theorem gZ_rem {op : BinOp} (h : isRem op = true) (q : IntKind) {a b : Nat} (hb : 0 < b) : (gZ op q a b).toNat < b := by
  cases op <;> cases h
  have e0 : ((b : Int) == 0) = false := by rw [beq_eq_false_iff_ne]; omega
  have e : gZ .rem q a b = ((a : Int).tmod (b : Int)) := by
    unfold gZ
    simp only [isShift, cond_false, ibin, e0]
  rw [e]
  have e2 : (a : Int).tmod (b : Int) = ((a % b : Nat) : Int) := rfl
  rw [e2, Int.toNat_natCast]
  exact Nat.mod_lt _ hb
mutual
def Seg.hi : Seg → Nat
  | .k n w => n % 2 ^ w
  | .d a b 0 w => Nat.min (hiW a - loW b) (2 ^ w - 1)
  | .p a b 0 w => Nat.min (hiW a + hiW b) (2 ^ w - 1)
  | .v _ _ w => 2 ^ w - 1
  | .g op _ _ b o w => bif isRem op && o.beq 0 && Nat.blt 0 (loW b) then Nat.min (hiW b - 1) (2 ^ w - 1) else 2 ^ w - 1
  | .d _ _ (_ + 1) w => 2 ^ w - 1
  | .p _ _ (_ + 1) w => 2 ^ w - 1
def hiW : List Seg → Nat
  | [] => 0
  | s :: r => s.hi + 2 ^ s.w * hiW r
def Seg.lo : Seg → Nat
  | .k n w => n % 2 ^ w
  | .d a b 0 w => bif Nat.blt (hiW a - loW b) (2 ^ w) then loW a - hiW b else 0
  | .p a b 0 w => bif Nat.blt (hiW a + hiW b) (2 ^ w) then loW a + loW b else 0
  | .v _ _ _ => 0
  | .g _ _ _ _ _ _ => 0
  | .d _ _ (_ + 1) _ => 0
  | .p _ _ (_ + 1) _ => 0
def loW : List Seg → Nat
  | [] => 0
  | s :: r => s.lo + 2 ^ s.w * loW r
end
mutual
theorem Seg.bounds (ρ : Nat → Nat) : ∀ (s : Seg), s.lo ≤ s.val ρ ∧ s.val ρ ≤ s.hi
  | .k n w => by simp only [Seg.lo, Seg.val, Seg.hi]; exact ⟨Nat.le_refl _, Nat.le_refl _⟩
  | .v i o w => by
    have := Seg.val_lt ρ (.v i o w)
    simp only [Seg.w] at this
    simp only [Seg.lo, Seg.hi]; omega
  | .g op q a b o w => by
    have := Seg.val_lt ρ (.g op q a b o w)
    simp only [Seg.w] at this
    obtain ⟨b1, b2⟩ := boundsW ρ b
    simp only [Seg.lo, Seg.hi]
    refine ⟨Nat.zero_le _, ?_⟩
    cases hc : isRem op && o.beq 0 && Nat.blt 0 (loW b)
    · rw [cond_false]; omega
    · rw [cond_true]
      simp only [Bool.and_eq_true] at hc
      obtain ⟨⟨h1, h2⟩, h3⟩ := hc
      obtain rfl := Nat.eq_of_beq_eq_true h2
      have h3 : 0 < loW b := Nat.le_of_ble_eq_true h3
      have h4 := gZ_rem h1 q (a := evW ρ a) (b := evW ρ b) (by omega)
      have h5 : (Seg.g op q a b 0 w).val ρ ≤ (gZ op q (evW ρ a) (evW ρ b)).toNat := by
        simp only [Seg.val, Nat.pow_zero, Nat.div_one]; exact Nat.mod_le _ _
      exact Nat.le_min.2 ⟨by omega, by omega⟩
  | .d a b 0 w => by
    have h1 := Seg.val_lt ρ (.d a b 0 w)
    simp only [Seg.w] at h1
    obtain ⟨a1, a2⟩ := boundsW ρ a
    obtain ⟨b1, b2⟩ := boundsW ρ b
    have h2 : (Seg.d a b 0 w).val ρ ≤ evW ρ a - evW ρ b := by
      simp only [Seg.val, Nat.pow_zero, Nat.div_one]; exact Nat.mod_le _ _
    have h3 : hiW a - loW b < 2 ^ w → (Seg.d a b 0 w).val ρ = evW ρ a - evW ρ b := fun h => by
      simp only [Seg.val, Nat.pow_zero, Nat.div_one]; exact Nat.mod_eq_of_lt (by omega)
    simp only [Seg.lo, Seg.hi]
    refine ⟨?_, Nat.le_min.2 ⟨by omega, by omega⟩⟩
    cases hb : Nat.blt (hiW a - loW b) (2 ^ w)
    · exact Nat.zero_le _
    · have := h3 (Nat.le_of_ble_eq_true hb)
      rw [cond_true]; omega
  | .p a b 0 w => by
    have h1 := Seg.val_lt ρ (.p a b 0 w)
    simp only [Seg.w] at h1
    obtain ⟨a1, a2⟩ := boundsW ρ a
    obtain ⟨b1, b2⟩ := boundsW ρ b
    have h2 : (Seg.p a b 0 w).val ρ ≤ evW ρ a + evW ρ b := by
      simp only [Seg.val, Nat.pow_zero, Nat.div_one]; exact Nat.mod_le _ _
    have h3 : hiW a + hiW b < 2 ^ w → (Seg.p a b 0 w).val ρ = evW ρ a + evW ρ b := fun h => by
      simp only [Seg.val, Nat.pow_zero, Nat.div_one]; exact Nat.mod_eq_of_lt (by omega)
    simp only [Seg.lo, Seg.hi]
    refine ⟨?_, Nat.le_min.2 ⟨by omega, by omega⟩⟩
    cases hb : Nat.blt (hiW a + hiW b) (2 ^ w)
    · exact Nat.zero_le _
    · have := h3 (Nat.le_of_ble_eq_true hb)
      rw [cond_true]; omega
  | .d a b (o + 1) w => by
    have := Seg.val_lt ρ (.d a b (o + 1) w)
    simp only [Seg.w] at this
    simp only [Seg.lo, Seg.hi]; omega
  | .p a b (o + 1) w => by
    have := Seg.val_lt ρ (.p a b (o + 1) w)
    simp only [Seg.w] at this
    simp only [Seg.lo, Seg.hi]; omega
theorem boundsW (ρ : Nat → Nat) : ∀ (x : List Seg), loW x ≤ evW ρ x ∧ evW ρ x ≤ hiW x
  | [] => by simp [loW, evW, hiW]
  | s :: r => by
    obtain ⟨a1, a2⟩ := Seg.bounds ρ s
    obtain ⟨b1, b2⟩ := boundsW ρ r
    have h1 := Nat.mul_le_mul_left (2 ^ s.w) b1
    have h2 := Nat.mul_le_mul_left (2 ^ s.w) b2
    simp only [loW, evW, hiW]; omega
end
/-! Two words, bit by bit -/
inductive Z4 | or | and | xor | add
/-- Of two pieces as long as each other: what comes of them; none: it is not known in short. -/
def bitZ : Z4 → Nat → Nat → Nat
  | .or, a, b => a ||| b
  | .and, a, b => a &&& b
  | .xor, a, b => a ^^^ b
  | .add, a, b => a ||| b
def okZ : Z4 → Nat → Nat → Bool
  | .add, a, b => (a &&& b).beq 0
  | _, _, _ => true
/-- Half of a number and its lowest bit: as long as bits are alike. -/
def runF : Nat → Nat → Nat → Nat
  | 0, _, _ => 0
  | f + 1, b, n => bif (n % 2).beq b then runF f b (n / 2) + 1 else 0
/-- A number's piece against an unknown's. -/
def mixZ (z : Z4) (c d : Nat) (s : Seg) : Option Seg :=
  bif c.beq 0 then (match z with | .or | .xor | .add => some s | .and => some (.k 0 d))
  else bif c.beq (2 ^ d - 1) then (match z with | .or => some (.k c d) | .and => some s | _ => none) else none
def sameZ (z : Z4) (s t : Seg) : Option Seg := bif s.eq t then (match z with | .or | .and => some s | .xor => some (.k 0 s.w) | .add => none) else none
def zW (z : Z4) : Nat → W → W → Option W
  | 0, _, _ => none
  | f + 1, [], y => some (match z with | .and => [] | _ => y)
  | f + 1, x, [] => some (match z with | .and => [] | _ => x)
  | f + 1, s :: r, t :: u =>
    let m := Nat.min s.w t.w
    bif m.beq 0 then (bif s.w.beq 0 then zW z f r (t :: u) else zW z f (s :: r) u) else
    match s, t with
    | .k n w, .k n' w' => bif okZ z (n % 2 ^ m) (n' % 2 ^ m) then (match zW z f (ncons (s.drop m) r) (ncons (t.drop m) u) with | some q => some (ncons (.k (bitZ z (n % 2 ^ m) (n' % 2 ^ m)) m) q) | none => none) else none
    | .k n w, _ => let d := Nat.max 1 (runF m (n % 2) n)
      match mixZ z (n % 2 ^ d) d (t.take d), zW z f (ncons (s.drop d) r) (ncons (t.drop d) u) with | some p, some q => some (ncons p q) | _, _ => none
    | _, .k n w => let d := Nat.max 1 (runF m (n % 2) n)
      match mixZ z (n % 2 ^ d) d (s.take d), zW z f (ncons (s.drop d) r) (ncons (t.drop d) u) with | some p, some q => some (ncons p q) | _, _ => none
    | _, _ => match sameZ z (s.take m) (t.take m), zW z f (ncons (s.drop m) r) (ncons (t.drop m) u) with | some p, some q => some (ncons p q) | _, _ => none
end Go.Ev
/- Words that are not known: what comes of two of them, bit by bit. -/
namespace Go.Ev
open Go
set_option linter.unusedVariables false
set_option linter.unusedSimpArgs false
def semZ : Z4 → Nat → Nat → Nat
  | .or, a, b => a ||| b
  | .and, a, b => a &&& b
  | .xor, a, b => a ^^^ b
  | .add, a, b => a + b
theorem or_cat (a b x y m : Nat) (ha : a < 2 ^ m) (hb : b < 2 ^ m) : (a + 2 ^ m * x) ||| (b + 2 ^ m * y) = (a ||| b) + 2 ^ m * (x ||| y) := by
  refine Nat.eq_of_testBit_eq fun i => ?_
  rw [Nat.testBit_or, Nat.add_comm a, Nat.add_comm b, Nat.add_comm (a ||| b), Nat.testBit_two_pow_mul_add _ ha, Nat.testBit_two_pow_mul_add _ hb, Nat.testBit_two_pow_mul_add _ (Nat.or_lt_two_pow ha hb)]
  split <;> rw [Nat.testBit_or]
theorem and_cat (a b x y m : Nat) (ha : a < 2 ^ m) (hb : b < 2 ^ m) : (a + 2 ^ m * x) &&& (b + 2 ^ m * y) = (a &&& b) + 2 ^ m * (x &&& y) := by
  refine Nat.eq_of_testBit_eq fun i => ?_
  rw [Nat.testBit_and, Nat.add_comm a, Nat.add_comm b, Nat.add_comm (a &&& b), Nat.testBit_two_pow_mul_add _ ha, Nat.testBit_two_pow_mul_add _ hb, Nat.testBit_two_pow_mul_add _ (Nat.and_lt_two_pow a hb)]
  split <;> rw [Nat.testBit_and]
theorem xor_cat (a b x y m : Nat) (ha : a < 2 ^ m) (hb : b < 2 ^ m) : (a + 2 ^ m * x) ^^^ (b + 2 ^ m * y) = (a ^^^ b) + 2 ^ m * (x ^^^ y) := by
  refine Nat.eq_of_testBit_eq fun i => ?_
  rw [Nat.testBit_xor, Nat.add_comm a, Nat.add_comm b, Nat.add_comm (a ^^^ b), Nat.testBit_two_pow_mul_add _ ha, Nat.testBit_two_pow_mul_add _ hb, Nat.testBit_two_pow_mul_add _ (Nat.xor_lt_two_pow ha hb)]
  split <;> rw [Nat.testBit_xor]
theorem semZ_cat (z : Z4) (a b x y m : Nat) (ha : a < 2 ^ m) (hb : b < 2 ^ m) : semZ z (a + 2 ^ m * x) (b + 2 ^ m * y) = semZ z a b + 2 ^ m * semZ z x y := by
  cases z
  · exact or_cat a b x y m ha hb
  · exact and_cat a b x y m ha hb
  · exact xor_cat a b x y m ha hb
  · simp only [semZ, Nat.mul_add]; omega
theorem or_of_and (a b : Nat) (h : a &&& b = 0) : a ||| b = a + b := by
  have ha : a < 2 ^ (a + b + 1) := Nat.lt_of_lt_of_le Nat.lt_two_pow_self (Nat.pow_le_pow_right (by omega) (by omega))
  have hb : b < 2 ^ (a + b + 1) := Nat.lt_of_lt_of_le Nat.lt_two_pow_self (Nat.pow_le_pow_right (by omega) (by omega))
  have hab : a + b < 2 ^ (a + b + 1) := Nat.lt_of_lt_of_le Nat.lt_two_pow_self (Nat.pow_le_pow_right (by omega) (by omega))
  have key := BitVec.add_eq_or_of_and_eq_zero (BitVec.ofNat (a + b + 1) a) (BitVec.ofNat (a + b + 1) b) (by
    apply BitVec.eq_of_toNat_eq
    simp only [BitVec.toNat_and, BitVec.toNat_ofNat, Nat.mod_eq_of_lt ha, Nat.mod_eq_of_lt hb, h]
    simp)
  have := congrArg BitVec.toNat key
  simp only [BitVec.toNat_add, BitVec.toNat_or, BitVec.toNat_ofNat, Nat.mod_eq_of_lt ha, Nat.mod_eq_of_lt hb, Nat.mod_eq_of_lt hab] at this
  exact this.symm
theorem bitZ_sem {z : Z4} {a b : Nat} (h : okZ z a b = true) : bitZ z a b = semZ z a b := by
  cases z <;> try rfl
  simp only [okZ, Nat.beq_eq] at h
  exact or_of_and a b h
theorem semZ_comm (z : Z4) (a b : Nat) : semZ z a b = semZ z b a := by
  cases z
  · exact Nat.or_comm _ _
  · exact Nat.and_comm _ _
  · exact Nat.xor_comm _ _
  · exact Nat.add_comm _ _
theorem semZ_zero (z : Z4) (b : Nat) : semZ z 0 b = (match z with | .and => 0 | _ => b) := by
  cases z <;> simp [semZ]
theorem bitZ_lt {z : Z4} {a b m : Nat} (ha : a < 2 ^ m) (hb : b < 2 ^ m) : bitZ z a b < 2 ^ m := by
  cases z
  · exact Nat.or_lt_two_pow ha hb
  · exact Nat.and_lt_two_pow a hb
  · exact Nat.xor_lt_two_pow ha hb
  · exact Nat.or_lt_two_pow ha hb
theorem mixZ_sound (ρ : Nat → Nat) {z : Z4} {c d : Nat} {s p : Seg} (hw : s.w = d) (h : mixZ z c d s = some p) : p.w = d ∧ p.val ρ = semZ z c (s.val ρ) := by
  have hv := Seg.val_lt ρ s
  rw [hw] at hv
  unfold mixZ at h
  cases h0 : c.beq 0
  · rw [h0] at h
    simp only [cond_false] at h
    cases h1 : c.beq (2 ^ d - 1)
    · rw [h1] at h; cases h
    · rw [h1] at h
      simp only [cond_true] at h
      have hc := Nat.eq_of_beq_eq_true h1
      cases z <;> simp only [Option.some.injEq] at h <;> first | (cases h; done) | skip
      · subst h
        refine ⟨rfl, ?_⟩
        subst hc
        simp only [Seg.val, semZ]
        rw [Nat.mod_eq_of_lt (by have := Nat.two_pow_pos d; omega)]
        refine Nat.eq_of_testBit_eq fun i => ?_
        rw [Nat.testBit_or, Nat.testBit_two_pow_sub_one]
        by_cases hi : i < d
        · simp [hi]
        · have := Nat.testBit_lt_two_pow (Nat.lt_of_lt_of_le hv (Nat.pow_le_pow_right (by omega) (by omega : d ≤ i)))
          simp [this]
      · subst h
        refine ⟨hw, ?_⟩
        subst hc
        simp only [semZ]
        rw [Nat.and_comm, Nat.and_two_pow_sub_one_eq_mod, Nat.mod_eq_of_lt hv]
  · rw [h0] at h
    simp only [cond_true] at h
    have hc := Nat.eq_of_beq_eq_true h0
    subst hc
    rw [semZ_zero]
    cases z <;> simp only [Option.some.injEq] at h <;> subst h
    · exact ⟨hw, rfl⟩
    · exact ⟨rfl, by simp [Seg.val]⟩
    · exact ⟨hw, rfl⟩
    · exact ⟨hw, rfl⟩
theorem sameZ_sound (ρ : Nat → Nat) {z : Z4} {s t p : Seg} (h : sameZ z s t = some p) : p.w = s.w ∧ p.val ρ = semZ z (s.val ρ) (t.val ρ) := by
  unfold sameZ at h
  cases he : s.eq t
  · rw [he] at h; cases h
  · rw [he] at h
    have := Seg.eq_sound _ _ he
    subst this
    simp only [cond_true] at h
    cases z <;> simp only [Option.some.injEq] at h <;> first | (cases h; done) | skip
    · subst h; exact ⟨rfl, (Nat.or_self _).symm⟩
    · subst h; exact ⟨rfl, (Nat.and_self _).symm⟩
    · subst h; exact ⟨rfl, by simp [Seg.val, semZ]⟩
theorem split_ev (ρ : Nat → Nat) {s : Seg} {r : W} {d : Nat} (h : d ≤ s.w) : evW ρ (s :: r) = (s.take d).val ρ + 2 ^ d * evW ρ (ncons (s.drop d) r) := by
  rw [ncons_ev, Seg.val_take ρ h, Seg.val_drop ρ h, Seg.w_drop]
  simp only [evW]
  have h1 := Nat.mod_add_div (s.val ρ) (2 ^ d)
  have h2 : 2 ^ s.w = 2 ^ d * 2 ^ (s.w - d) := by rw [← Nat.pow_add]; congr 1; omega
  rw [Nat.mul_add, ← Nat.mul_assoc, ← h2]
  omega
theorem runF_le : ∀ (f b n : Nat), runF f b n ≤ f := by
  intro f
  induction f with
  | zero => intro b n; exact Nat.le_refl _
  | succ f ih =>
    intro b n
    unfold runF
    cases (n % 2).beq b
    · exact Nat.zero_le _
    · have := ih b (n / 2); simp only [cond_true]; omega
theorem step_ev (ρ : Nat → Nat) (z : Z4) {s t p : Seg} {r u q : W} {d : Nat} (hs : d ≤ s.w) (ht : d ≤ t.w) (hp : p.w = d) (hpv : p.val ρ = semZ z ((s.take d).val ρ) ((t.take d).val ρ)) (hq : evW ρ q = semZ z (evW ρ (ncons (s.drop d) r)) (evW ρ (ncons (t.drop d) u))) :
    evW ρ (ncons p q) = semZ z (evW ρ (s :: r)) (evW ρ (t :: u)) := by
  rw [ncons_ev, split_ev ρ hs, split_ev ρ ht, semZ_cat, hp, hpv, hq]
  · have := Seg.val_lt ρ (s.take d); rw [Seg.w_take] at this; exact this
  · have := Seg.val_lt ρ (t.take d); rw [Seg.w_take] at this; exact this
theorem zW_sound (ρ : Nat → Nat) (z : Z4) : ∀ (f : Nat) (x y q : W), zW z f x y = some q → evW ρ q = semZ z (evW ρ x) (evW ρ y) := by
  intro f
  induction f with
  | zero => intro x y q h; simp [zW] at h
  | succ f ih =>
    intro x y q h
    cases x with
    | nil =>
      simp only [zW, Option.some.injEq] at h
      simp only [evW, semZ_zero]
      cases z <;> simp only at h ⊢ <;> subst h <;> rfl
    | cons s r =>
      cases y with
      | nil =>
        simp only [zW, Option.some.injEq] at h
        rw [semZ_comm]
        have e0 : evW ρ ([] : W) = 0 := rfl
        rw [e0, semZ_zero]
        cases z <;> simp only at h ⊢ <;> subst h <;> rfl
      | cons t u =>
        unfold zW at h
        have m1 : Nat.min s.w t.w ≤ s.w := Nat.min_le_left _ _
        have m2 : Nat.min s.w t.w ≤ t.w := Nat.min_le_right _ _
        generalize hm : Nat.min s.w t.w = m at m1 m2
        simp only [hm] at h
        cases hm0 : m.beq 0
        · rw [hm0] at h
          simp only [cond_false] at h
          have hmp : m ≠ 0 := fun e => by rw [e] at hm0; cases hm0
          have mixc : ∀ {n w : Nat} {t2 : Seg} {r2 u2 : W} {q2 : W}, m ≤ w → m ≤ t2.w → (match mixZ z (n % 2 ^ (Nat.max 1 (runF m (n % 2) n))) (Nat.max 1 (runF m (n % 2) n)) (t2.take (Nat.max 1 (runF m (n % 2) n))), zW z f (ncons ((Seg.k n w).drop (Nat.max 1 (runF m (n % 2) n))) r2) (ncons (t2.drop (Nat.max 1 (runF m (n % 2) n))) u2) with | some p, some q => some (ncons p q) | _, _ => none) = some q2 → evW ρ q2 = semZ z (evW ρ (.k n w :: r2)) (evW ρ (t2 :: u2)) := by
            intro n w t2 r2 u2 q2 h1 h2 h
            have hd := runF_le m (n % 2) n
            have hdm : Nat.max 1 (runF m (n % 2) n) ≤ m := Nat.max_le.2 ⟨by omega, hd⟩
            generalize Nat.max 1 (runF m (n % 2) n) = d at h hdm
            split at h
            · rename_i p q' hp hq
              cases h
              obtain ⟨e1, e2⟩ := mixZ_sound ρ (Seg.w_take _ _) hp
              refine step_ev ρ z (d := d) (s := .k n w) (t := t2) (by simp only [Seg.w]; omega) (by omega) e1 ?_ (ih _ _ _ hq)
              rw [e2]; simp only [Seg.take, Seg.val, Nat.mod_mod]
            · cases h
          have mixc' : ∀ {n w : Nat} {t2 : Seg} {r2 u2 : W} {q2 : W}, m ≤ w → m ≤ t2.w → (match mixZ z (n % 2 ^ (Nat.max 1 (runF m (n % 2) n))) (Nat.max 1 (runF m (n % 2) n)) (t2.take (Nat.max 1 (runF m (n % 2) n))), zW z f (ncons (t2.drop (Nat.max 1 (runF m (n % 2) n))) u2) (ncons ((Seg.k n w).drop (Nat.max 1 (runF m (n % 2) n))) r2) with | some p, some q => some (ncons p q) | _, _ => none) = some q2 → evW ρ q2 = semZ z (evW ρ (t2 :: u2)) (evW ρ (.k n w :: r2)) := by
            intro n w t2 r2 u2 q2 h1 h2 h
            have hd := runF_le m (n % 2) n
            have hdm : Nat.max 1 (runF m (n % 2) n) ≤ m := Nat.max_le.2 ⟨by omega, hd⟩
            generalize Nat.max 1 (runF m (n % 2) n) = d at h hdm
            split at h
            · rename_i p q' hp hq
              cases h
              obtain ⟨e1, e2⟩ := mixZ_sound ρ (Seg.w_take _ _) hp
              refine step_ev ρ z (d := d) (s := t2) (t := .k n w) (by omega) (by simp only [Seg.w]; omega) e1 ?_ (ih _ _ _ hq)
              rw [e2, semZ_comm]; simp only [Seg.take, Seg.val, Nat.mod_mod]
            · cases h
          split at h
          · rename_i n w n' w'
            cases hk : okZ z (n % 2 ^ m) (n' % 2 ^ m)
            · rw [hk] at h; cases h
            · rw [hk] at h
              simp only [cond_true] at h
              split at h
              · rename_i q' hq
                cases h
                refine step_ev ρ z (d := m) (s := .k n w) (t := .k n' w') m1 m2 rfl ?_ (ih _ _ _ hq)
                simp only [Seg.take, Seg.val, Nat.mod_mod]
                rw [Nat.mod_eq_of_lt (bitZ_lt (Nat.mod_lt _ (Nat.two_pow_pos _)) (Nat.mod_lt _ (Nat.two_pow_pos _)))]
                exact bitZ_sem hk
              · cases h
          · exact mixc m1 m2 h
          · exact mixc' m2 m1 h
          · split at h
            · rename_i p q' hp hq
              cases h
              obtain ⟨e1, e2⟩ := sameZ_sound ρ hp
              exact step_ev ρ z (d := m) m1 m2 (e1.trans (Seg.w_take _ _)) e2 (ih _ _ _ hq)
            · cases h
        · rw [hm0] at h
          simp only [cond_true] at h
          have hm0 := Nat.eq_of_beq_eq_true hm0
          have drop0 : ∀ {s : Seg} {r : W}, s.w = 0 → evW ρ (s :: r) = evW ρ r := fun {s r} hs => by
            have h1 := Seg.val_lt ρ s
            rw [hs] at h1
            simp only [evW, hs]; omega
          cases hs0 : s.w.beq 0
          · rw [hs0] at h
            simp only [cond_false] at h
            have hs : s.w ≠ 0 := fun e => by rw [e] at hs0; cases hs0
            have ht : t.w = 0 := by
              have : m = s.w ∨ m = t.w := by rw [← hm]; rcases Nat.le_total s.w t.w with h | h; exact .inl (Nat.min_eq_left h); exact .inr (Nat.min_eq_right h)
              omega
            rw [drop0 ht]; exact ih _ _ _ h
          · rw [hs0] at h
            rw [drop0 (Nat.eq_of_beq_eq_true hs0)]; exact ih _ _ _ h
/-- Do two words differ, at a piece that is known of both? -/
def difF : Nat → W → W → Bool
  | 0, _, _ => false
  | f + 1, [], y => Nat.blt 0 (loW y)
  | f + 1, x, [] => Nat.blt 0 (loW x)
  | f + 1, s :: r, t :: u =>
    let m := Nat.min s.w t.w
    (match s, t with | .k n _, .k n' _ => !((n % 2 ^ m).beq (n' % 2 ^ m)) | _, _ => false) || difF f (ncons (s.drop m) r) (ncons (t.drop m) u)
theorem difF_sound (ρ : Nat → Nat) : ∀ (f : Nat) (x y : W), difF f x y = true → evW ρ x ≠ evW ρ y := by
  intro f
  induction f with
  | zero => intro x y h; cases h
  | succ f ih =>
    intro x y h
    cases x with
    | nil =>
      have h1 : 0 < loW y := by
        simp only [difF] at h
        exact Nat.le_of_ble_eq_true h
      have := (boundsW ρ y).1
      simp only [evW]; omega
    | cons s r =>
      cases y with
      | nil =>
        have h1 : 0 < loW (s :: r) := by
          simp only [difF] at h
          exact Nat.le_of_ble_eq_true h
        have := (boundsW ρ (s :: r)).1
        have e0 : evW ρ ([] : W) = 0 := rfl
        rw [e0]; omega
      | cons t u =>
        unfold difF at h
        have m1 : Nat.min s.w t.w ≤ s.w := Nat.min_le_left _ _
        have m2 : Nat.min s.w t.w ≤ t.w := Nat.min_le_right _ _
        generalize Nat.min s.w t.w = m at m1 m2 h
        simp only [Bool.or_eq_true] at h
        intro he
        rw [split_ev ρ m1, split_ev ρ m2] at he
        have l1 := Seg.val_lt ρ (s.take m)
        have l2 := Seg.val_lt ρ (t.take m)
        rw [Seg.w_take] at l1 l2
        have e1 : (s.take m).val ρ = (t.take m).val ρ := by
          have := congrArg (· % 2 ^ m) he
          simpa [Nat.add_mul_mod_self_left, Nat.mod_eq_of_lt l1, Nat.mod_eq_of_lt l2] using this
        rcases h with h | h
        · split at h
          · simp only [Bool.not_eq_true'] at h
            simp only [Seg.take, Seg.val, Nat.mod_mod] at e1
            rw [e1] at h
            simp at h
          · cases h
        · refine ih _ _ h ?_
          rw [e1] at he
          have := Nat.add_left_cancel he
          exact Nat.eq_of_mul_eq_mul_left (Nat.two_pow_pos _) this
end Go.Ev
/- Rows of eight rows of eight ..: what the kernel reads and writes at a place that it knows. -/
namespace Go.Ev
open Go
set_option linter.unusedVariables false
set_option linter.unusedSimpArgs false
set_option linter.constructorNameAsVariable false
noncomputable section
def ifK (b : Bool) (x y : Bool) : Bool := Bool.rec (motive := fun _ => Bool) y x b
theorem ifK_true {b x y : Bool} (h : ifK b x y = true) : (b = true ∧ x = true) ∨ (b = false ∧ y = true) := by
  cases b
  · exact .inr ⟨rfl, h⟩
  · exact .inl ⟨rfl, h⟩
theorem ifF_true {a b : Bool} (h : ifK a b false = true) : a = true ∧ b = true := by
  cases a
  · cases h
  · exact ⟨rfl, h⟩
/-- A number that is told in full before it goes on. -/
def fN (n : Nat) (K : Nat → Bool) : Bool := Nat.rec (motive := fun _ => Bool) false (fun m _ => K m) (Nat.succ n)
theorem fN_eq (n : Nat) (K : Nat → Bool) : fN n K = K n := rfl
inductive N8 (α : Type) where
  | mk (a0 a1 a2 a3 a4 a5 a6 a7 : α)
inductive D8 where
  | d0 | d1 | d2 | d3 | d4 | d5 | d6 | d7
/-- What is worked out once, and kept by the kernel. -/
inductive Bx (α : Type) where
  | mk (f : α)
def digF (n : Nat) : D8 := match n with
  | 0 => .d0 | 1 => .d1 | 2 => .d2 | 3 => .d3 | 4 => .d4 | 5 => .d5 | 6 => .d6 | _ => .d7
def dig (n : Nat) : D8 := digF (Nat.mod n 8)
section
variable {α : Type}
def get8 (d : D8) (t : N8 α) : α := match t with
  | .mk a0 a1 a2 a3 a4 a5 a6 a7 => match d with
    | .d0 => a0 | .d1 => a1 | .d2 => a2 | .d3 => a3 | .d4 => a4 | .d5 => a5 | .d6 => a6 | .d7 => a7
def set8 (d : D8) (t : N8 α) (v : α) : N8 α := match t with
  | .mk a0 a1 a2 a3 a4 a5 a6 a7 => match d with
    | .d0 => .mk v a1 a2 a3 a4 a5 a6 a7
    | .d1 => .mk a0 v a2 a3 a4 a5 a6 a7
    | .d2 => .mk a0 a1 v a3 a4 a5 a6 a7
    | .d3 => .mk a0 a1 a2 v a4 a5 a6 a7
    | .d4 => .mk a0 a1 a2 a3 v a5 a6 a7
    | .d5 => .mk a0 a1 a2 a3 a4 v a6 a7
    | .d6 => .mk a0 a1 a2 a3 a4 a5 v a7
    | .d7 => .mk a0 a1 a2 a3 a4 a5 a6 v
theorem get_set8_same (d : D8) (t : N8 α) (v : α) : get8 d (set8 d t v) = v := by cases t; cases d <;> rfl
theorem get_set8_other {d e : D8} (h : d ≠ e) (t : N8 α) (v : α) : get8 d (set8 e t v) = get8 d t := by
  cases t; cases d <;> cases e <;> first | rfl | exact absurd rfl h
def pj (d : D8) : Bx (N8 α → α) := D8.rec (motive := fun _ => Bx (N8 α → α)) (.mk fun t => t.1) (.mk fun t => t.2) (.mk fun t => t.3) (.mk fun t => t.4) (.mk fun t => t.5) (.mk fun t => t.6) (.mk fun t => t.7) (.mk fun t => t.8) d
theorem pj_eq (d : D8) : (pj d : Bx (N8 α → α)) = .mk (get8 d) := by
  cases d <;> exact congrArg Bx.mk (funext fun t => by cases t; rfl)
abbrev Up (α : Type) := (α → (α → Bool) → Bool) → N8 α → (N8 α → Bool) → Bool
def up8 (d : D8) : Bx (Up α) := D8.rec (motive := fun _ => Bx (Up α))
  (.mk fun F t K => N8.rec (motive := fun _ => Bool) (fun a0 a1 a2 a3 a4 a5 a6 a7 => F a0 fun v => K (.mk v a1 a2 a3 a4 a5 a6 a7)) t)
  (.mk fun F t K => N8.rec (motive := fun _ => Bool) (fun a0 a1 a2 a3 a4 a5 a6 a7 => F a1 fun v => K (.mk a0 v a2 a3 a4 a5 a6 a7)) t)
  (.mk fun F t K => N8.rec (motive := fun _ => Bool) (fun a0 a1 a2 a3 a4 a5 a6 a7 => F a2 fun v => K (.mk a0 a1 v a3 a4 a5 a6 a7)) t)
  (.mk fun F t K => N8.rec (motive := fun _ => Bool) (fun a0 a1 a2 a3 a4 a5 a6 a7 => F a3 fun v => K (.mk a0 a1 a2 v a4 a5 a6 a7)) t)
  (.mk fun F t K => N8.rec (motive := fun _ => Bool) (fun a0 a1 a2 a3 a4 a5 a6 a7 => F a4 fun v => K (.mk a0 a1 a2 a3 v a5 a6 a7)) t)
  (.mk fun F t K => N8.rec (motive := fun _ => Bool) (fun a0 a1 a2 a3 a4 a5 a6 a7 => F a5 fun v => K (.mk a0 a1 a2 a3 a4 v a6 a7)) t)
  (.mk fun F t K => N8.rec (motive := fun _ => Bool) (fun a0 a1 a2 a3 a4 a5 a6 a7 => F a6 fun v => K (.mk a0 a1 a2 a3 a4 a5 v a7)) t)
  (.mk fun F t K => N8.rec (motive := fun _ => Bool) (fun a0 a1 a2 a3 a4 a5 a6 a7 => F a7 fun v => K (.mk a0 a1 a2 a3 a4 a5 a6 v)) t) d
theorem up8_eq (d : D8) : (up8 d : Bx (Up α)) = .mk (fun F t K => F (get8 d t) fun v => K (set8 d t v)) := by
  cases d <;> exact congrArg Bx.mk (funext fun F => funext fun t => funext fun K => by cases t; rfl)
end
theorem digF_inj : ∀ a b : Nat, a < 8 → b < 8 → digF a = digF b → a = b := by
  intro a b ha hb h
  have : ∀ a b : Fin 8, digF a.1 = digF b.1 → a.1 = b.1 := by
    intro a b
    match a, b with
    | ⟨a, ha⟩, ⟨b, hb⟩ =>
      match a, b, ha, hb with
      | 0, 0, _, _ | 1, 1, _, _ | 2, 2, _, _ | 3, 3, _, _ | 4, 4, _, _ | 5, 5, _, _ | 6, 6, _, _ | 7, 7, _, _ => intro _; rfl
      | 0, 1, _, _ | 0, 2, _, _ | 0, 3, _, _ | 0, 4, _, _ | 0, 5, _, _ | 0, 6, _, _ | 0, 7, _, _ => intro h; cases h
      | 1, 0, _, _ | 1, 2, _, _ | 1, 3, _, _ | 1, 4, _, _ | 1, 5, _, _ | 1, 6, _, _ | 1, 7, _, _ => intro h; cases h
      | 2, 0, _, _ | 2, 1, _, _ | 2, 3, _, _ | 2, 4, _, _ | 2, 5, _, _ | 2, 6, _, _ | 2, 7, _, _ => intro h; cases h
      | 3, 0, _, _ | 3, 1, _, _ | 3, 2, _, _ | 3, 4, _, _ | 3, 5, _, _ | 3, 6, _, _ | 3, 7, _, _ => intro h; cases h
      | 4, 0, _, _ | 4, 1, _, _ | 4, 2, _, _ | 4, 3, _, _ | 4, 5, _, _ | 4, 6, _, _ | 4, 7, _, _ => intro h; cases h
      | 5, 0, _, _ | 5, 1, _, _ | 5, 2, _, _ | 5, 3, _, _ | 5, 4, _, _ | 5, 6, _, _ | 5, 7, _, _ => intro h; cases h
      | 6, 0, _, _ | 6, 1, _, _ | 6, 2, _, _ | 6, 3, _, _ | 6, 4, _, _ | 6, 5, _, _ | 6, 7, _, _ => intro h; cases h
      | 7, 0, _, _ | 7, 1, _, _ | 7, 2, _, _ | 7, 3, _, _ | 7, 4, _, _ | 7, 5, _, _ | 7, 6, _, _ => intro h; cases h
      | a + 8, _, ha, _ => omega
      | _, b + 8, _, hb => omega
  exact this ⟨a, ha⟩ ⟨b, hb⟩ h
theorem dig_inj {a b : Nat} (h : dig a = dig b) : a % 8 = b % 8 := digF_inj _ _ (Nat.mod_lt _ (by omega)) (Nat.mod_lt _ (by omega)) h
theorem dig_mod {a b : Nat} (h : a % 8 = b % 8) : dig a = dig b := congrArg digF h
/-- Rows of rows, so deep. -/
@[reducible] def Nest (k : Nat) (α : Type) : Type := Nat.rec (motive := fun _ => Type) α (fun _ T => N8 T) k
section
variable {α : Type}
def nAt (i : Nat) (k : Nat) : Nest k α → α := Nat.rec (motive := fun k => Nest k α → α) (fun t => t) (fun k ih t => ih (get8 (dig (Nat.div i (Nat.pow 8 k))) t)) k
def nSet (i : Nat) (v : α) (k : Nat) : Nest k α → Nest k α := Nat.rec (motive := fun k => Nest k α → Nest k α) (fun _ => v) (fun k ih t => set8 (dig (Nat.div i (Nat.pow 8 k))) t (ih (get8 (dig (Nat.div i (Nat.pow 8 k))) t))) k
def nRep (v : α) (k : Nat) : Nest k α := Nat.rec (motive := fun k => Nest k α) v (fun k ih => .mk ih ih ih ih ih ih ih ih) k
theorem nAt_s (i k : Nat) (t : Nest (k + 1) α) : nAt i (k + 1) t = nAt i k (get8 (dig (i / 8 ^ k)) t) := rfl
theorem nSet_s (i k : Nat) (v : α) (t : Nest (k + 1) α) : nSet i v (k + 1) t = set8 (dig (i / 8 ^ k)) t (nSet i v k (get8 (dig (i / 8 ^ k)) t)) := rfl
theorem nAt_nSet (i j : Nat) (v : α) : ∀ (k : Nat) (t : Nest k α), nAt j k (nSet i v k t) = if j % 8 ^ k = i % 8 ^ k then v else nAt j k t := by
  intro k
  induction k with
  | zero => intro t; rw [if_pos (by simp [Nat.mod_one])]; rfl
  | succ k ih =>
    intro t
    rw [nAt_s, nSet_s, nAt_s, Nat.pow_succ, Nat.mod_mul, Nat.mod_mul]
    have hj : j % 8 ^ k < 8 ^ k := Nat.mod_lt _ (Nat.pow_pos (by omega))
    have hi : i % 8 ^ k < 8 ^ k := Nat.mod_lt _ (Nat.pow_pos (by omega))
    by_cases h : dig (j / 8 ^ k) = dig (i / 8 ^ k)
    · rw [h, get_set8_same, ih]
      have hd := dig_inj h
      rw [hd]
      by_cases e : j % 8 ^ k = i % 8 ^ k
      · rw [if_pos e, if_pos (by rw [e])]
      · rw [if_neg e, if_neg (by omega)]
    · rw [get_set8_other h]
      have hd : ¬ j / 8 ^ k % 8 = i / 8 ^ k % 8 := fun e => h (dig_mod e)
      rw [if_neg]
      intro e
      apply hd
      have e1 : (j % 8 ^ k + 8 ^ k * (j / 8 ^ k % 8)) / 8 ^ k = (i % 8 ^ k + 8 ^ k * (i / 8 ^ k % 8)) / 8 ^ k := by rw [e]
      rw [Nat.add_mul_div_left _ _ (by omega), Nat.add_mul_div_left _ _ (by omega), Nat.div_eq_of_lt hj, Nat.div_eq_of_lt hi] at e1
      omega
theorem nAt_rep (i : Nat) (v : α) : ∀ k, nAt i k (nRep v k) = v := by
  intro k
  induction k with
  | zero => rfl
  | succ k ih =>
    rw [nAt_s]
    have : get8 (dig (i / 8 ^ k)) (nRep v (k + 1)) = nRep v k := by
      show get8 _ (N8.mk _ _ _ _ _ _ _ _) = _
      cases dig (i / 8 ^ k) <;> rfl
    rw [this, ih]
/-- The way to a place, worked out once. -/
def nG (k i : Nat) : Bx (Nest k α → α) := Nat.rec (motive := fun k => Bx (Nest k α → α)) (.mk fun t => t) (fun k ih => Bx.rec (motive := fun _ => Bx (N8 (Nest k α) → α)) (fun g => Bx.rec (motive := fun _ => Bx (N8 (Nest k α) → α)) (fun f => .mk fun t => g (f t)) (pj (dig (Nat.div i (Nat.pow 8 k))))) ih) k
theorem nG_eq (k i : Nat) : (nG k i : Bx (Nest k α → α)) = .mk (nAt i k) := by
  induction k with
  | zero => rfl
  | succ k ih =>
    show (Bx.rec (motive := fun _ => Bx (N8 (Nest k α) → α)) (fun g => Bx.rec (motive := fun _ => Bx (N8 (Nest k α) → α)) (fun f => .mk fun t => g (f t)) (pj (dig (Nat.div i (Nat.pow 8 k))))) (nG k i)) = _
    rw [ih, pj_eq]; rfl
def nP (k i : Nat) : Bx (α → Nest k α → (Nest k α → Bool) → Bool) := Nat.rec (motive := fun k => Bx (α → Nest k α → (Nest k α → Bool) → Bool)) (.mk fun v _ K => K v) (fun k ih => Bx.rec (motive := fun _ => Bx (α → N8 (Nest k α) → (N8 (Nest k α) → Bool) → Bool)) (fun g => Bx.rec (motive := fun _ => Bx (α → N8 (Nest k α) → (N8 (Nest k α) → Bool) → Bool)) (fun f => .mk fun v t K => f (g v) t K) (up8 (dig (Nat.div i (Nat.pow 8 k))))) ih) k
theorem nP_eq (k i : Nat) : (nP k i : Bx (α → Nest k α → (Nest k α → Bool) → Bool)) = .mk fun v t K => K (nSet i v k t) := by
  induction k with
  | zero => rfl
  | succ k ih =>
    show (Bx.rec (motive := fun _ => Bx (α → N8 (Nest k α) → (N8 (Nest k α) → Bool) → Bool)) (fun g => Bx.rec (motive := fun _ => Bx (α → N8 (Nest k α) → (N8 (Nest k α) → Bool) → Bool)) (fun f => .mk fun v t K => f (g v) t K) (up8 (dig (Nat.div i (Nat.pow 8 k))))) (nP k i)) = _
    rw [ih, up8_eq]; rfl
end
/-! Trees that are whole -/
def full {α : Type} : Nat → (Nat → Option α) → Tr α
  | 0, _ => .lf
  | d + 1, f => .nd (full d fun k => f (2 * k + 1)) (f 0) (full d fun k => f (2 * k + 2))
theorem full_get {α : Type} : ∀ (d : Nat) (f : Nat → Option α) (b : Nat), b + 1 < 2 ^ d → (full d f).get b = f b := by
  intro d
  induction d with
  | zero => intro f b h; simp at h
  | succ d ih =>
    intro f b h
    rw [Nat.pow_succ] at h
    cases b with
    | zero => rfl
    | succ k =>
      simp only [full, Tr.get]
      cases hb : (k % 2).beq 0
      · have h1 : k % 2 = 1 := by have : ¬ k % 2 = 0 := fun e => by simp [e] at hb
                                  omega
        simp only [cond_false]
        rw [ih _ _ (by omega)]
        congr 1; omega
      · have h1 : k % 2 = 0 := by simpa using hb
        simp only [cond_true]
        rw [ih _ _ (by omega)]
        congr 1; omega
theorem full_none {α : Type} : ∀ (d : Nat) (f : Nat → Option α) (b : Nat), ¬ b + 1 < 2 ^ d → (full d f).get b = none := by
  intro d
  induction d with
  | zero => intro f b h; rfl
  | succ d ih =>
    intro f b h
    have hp : 0 < 2 ^ d := Nat.two_pow_pos d
    rw [Nat.pow_succ] at h
    cases b with
    | zero => omega
    | succ k =>
      simp only [full, Tr.get]
      cases hb : (k % 2).beq 0
      · have h1 : k % 2 = 1 := by have : ¬ k % 2 = 0 := fun e => by simp [e] at hb
                                  omega
        simp only [cond_false]
        exact ih _ _ (by omega)
      · have h1 : k % 2 = 0 := by simpa using hb
        simp only [cond_true]
        exact ih _ _ (by omega)
theorem full_putF {α : Type} : ∀ (d : Nat) (f : Nat → Option α) (b g : Nat) (v : Option α), b + 1 < 2 ^ d → b < g → Tr.putF g (full d f) b v = full d fun j => if j = b then v else f j := by
  intro d
  induction d with
  | zero => intro f b g v h; simp at h
  | succ d ih =>
    intro f b g v h hg
    rw [Nat.pow_succ] at h
    cases g with
    | zero => omega
    | succ g =>
    cases b with
    | zero =>
      simp only [full, Tr.putF, Tr.left, Tr.right]
      congr 1
    | succ k =>
      simp only [full, Tr.putF, Tr.left, Tr.right, Tr.top]
      cases hb : (k % 2).beq 0
      · have h1 : k % 2 = 1 := by have : ¬ k % 2 = 0 := fun e => by simp [e] at hb
                                  omega
        simp only [cond_false]
        rw [ih _ _ _ _ (by omega) (by omega)]
        congr 1
        · congr 1; funext j; rw [if_neg (by omega)]
        · congr 1; funext j
          by_cases e : j = k / 2
          · rw [if_pos e, if_pos (by omega)]
          · rw [if_neg e, if_neg (by omega)]
      · have h1 : k % 2 = 0 := by simpa using hb
        simp only [cond_true]
        rw [ih _ _ _ _ (by omega) (by omega)]
        congr 1
        · congr 1; funext j
          by_cases e : j = k / 2
          · rw [if_pos e, if_pos (by omega)]
          · rw [if_neg e, if_neg (by omega)]
        · congr 1; funext j; rw [if_neg (by omega)]
theorem full_put {α : Type} {d : Nat} {f : Nat → Option α} {b : Nat} {v : Option α} (h : b + 1 < 2 ^ d) : (full d f).put b v = full d fun j => if j = b then v else f j := full_putF d f b (b + 1) v h (by omega)
end
end Go.Ev
/- Values that are not known whole, memory of sparse blocks; what the kernel reads and writes of them, in continuations. -/
namespace Go.Ev
open Go
set_option linter.unusedVariables false
set_option linter.unusedSimpArgs false
/-- What a great row is made of where nothing was laid. -/
inductive Z0 where
  | i (k : IntKind)
  | b | p | s | m | f
def Z0.val : Z0 → Value
  | .i k => .int k (Int.ofNat 0)
  | .b => .bool false
  | .p => .pointer none
  | .s => .slice none 0 0
  | .m => .map none
  | .f => .nilFunc
def flatZ (zs : List (Nat × Z0)) : List Value := zs.flatMap fun p => List.replicate p.1 p.2.val
inductive SV where
  | n (k : IntKind) (a : Nat)
  | z (k : IntKind) (a : Nat)
  | w (k : IntKind) (x : W)
  | t | f
  | p (b o : Nat) | np
  | sl (b o l c : Nat) | ns
  | m (b : Nat) | nm | it (b : Nat)
  | fn (g : FuncId) (fs cs : List SV) | nf
  | st (l : List SV)
  | u
  | ag (l : List SV) | tu (l : List SV)
  | big (zs : List (Nat × Z0))
  | y (k : IntKind) (i : Nat)
/-- A number with a sign, told by one without. -/
def zz (n : Nat) : Int := bif (n % 2).beq 0 then Int.ofNat (n / 2) else Int.negSucc (n / 2)
theorem zz_of (a : Int) : ∃ n, zz n = a := by
  cases a with
  | ofNat a => exact ⟨2 * a, by unfold zz; rw [Nat.mul_mod_right, Nat.mul_div_cancel_left a (by omega)]; rfl⟩
  | negSucc a => exact ⟨2 * a + 1, by unfold zz; rw [show (2 * a + 1) % 2 = 1 by omega, show (2 * a + 1) / 2 = a by omega]; rfl⟩
section
variable (ρ : Nat → Nat)
def byteOf : SV → UInt8
  | .n _ a => UInt8.ofNat a
  | .w _ x => UInt8.ofNat (evW ρ x)
  | _ => 0
mutual
def SV.inst : SV → Value
  | .n k a => .int k (Int.ofNat a)
  | .z k a => .int k (Int.negSucc a)
  | .w k x => .int k (Int.ofNat (evW ρ x))
  | .t => .bool true
  | .f => .bool false
  | .p b o => .pointer (some ⟨b, o, none⟩)
  | .np => .pointer none
  | .sl b o l c => .slice (some ⟨b, o, none⟩) l c
  | .ns => .slice none 0 0
  | .m b => .map (some b)
  | .nm => .map none
  | .it b => .chan (some b)
  | .fn g fs cs => .func (.func g) ⟨instL fs⟩ ⟨instL cs⟩
  | .nf => .nilFunc
  | .st l => .string ⟨⟨l.map (byteOf ρ)⟩⟩
  | .u => undef
  | .ag l => .agg ⟨instL l⟩
  | .tu l => .tuple ⟨instL l⟩
  | .big zs => .agg ⟨flatZ zs⟩
  | .y k i => .int k (zz (ρ i))
def instL : List SV → List Value
  | [] => []
  | v :: l => v.inst :: instL l
end
theorem instL_map : ∀ l, instL ρ l = l.map (SV.inst ρ)
  | [] => rfl
  | v :: l => by rw [instL, instL_map l, List.map_cons]
end
def Z0.sv : Z0 → SV
  | .i k => .n k 0
  | .b => .f
  | .p => .np
  | .s => .ns
  | .m => .nm
  | .f => .nf
theorem Z0.sv_inst (ρ : Nat → Nat) (z : Z0) : z.sv.inst ρ = z.val := by cases z <;> rfl
def Z0.ps (zs : List (Nat × Z0)) : List (Nat × SV) := zs.map fun p => (p.1, p.2.sv)
/-! What a value is, by the kernel in one step -/
inductive Nn where
  | no
  | yes (k : IntKind) (a : Nat)
inductive Pp where
  | no
  | yes (b o : Nat)
inductive B4 where
  | no | t | f | u
noncomputable def asN (v : SV) : Nn := SV.rec (motive_1 := fun _ => Nn) (motive_2 := fun _ => Nn) (fun k a => .yes k a) (fun _ _ => .no) (fun _ _ => .no) .no .no (fun _ _ => .no) .no (fun _ _ _ _ => .no) .no (fun _ => .no) .no (fun _ => .no) (fun _ _ _ _ _ => .no) .no (fun _ _ => .no) .no (fun _ _ => .no) (fun _ _ => .no) (fun _ => .no) (fun _ _ => .no) .no (fun _ _ _ _ => .no) v
noncomputable def asP (v : SV) : Pp := SV.rec (motive_1 := fun _ => Pp) (motive_2 := fun _ => Pp) (fun _ _ => .no) (fun _ _ => .no) (fun _ _ => .no) .no .no (fun b o => .yes b o) .no (fun _ _ _ _ => .no) .no (fun _ => .no) .no (fun _ => .no) (fun _ _ _ _ _ => .no) .no (fun _ _ => .no) .no (fun _ _ => .no) (fun _ _ => .no) (fun _ => .no) (fun _ _ => .no) .no (fun _ _ _ _ => .no) v
noncomputable def asB (v : SV) : B4 := SV.rec (motive_1 := fun _ => B4) (motive_2 := fun _ => B4) (fun _ _ => .no) (fun _ _ => .no) (fun _ _ => .no) .t .f (fun _ _ => .no) .no (fun _ _ _ _ => .no) .no (fun _ => .no) .no (fun _ => .no) (fun _ _ _ _ _ => .no) .no (fun _ _ => .no) .u (fun _ _ => .no) (fun _ _ => .no) (fun _ => .no) (fun _ _ => .no) .no (fun _ _ _ _ => .no) v
/-- The parts of a struct, or of several answers. -/
noncomputable def asA (v : SV) : Option (List SV) := SV.rec (motive_1 := fun _ => Option (List SV)) (motive_2 := fun _ => Option (List SV)) (fun _ _ => none) (fun _ _ => none) (fun _ _ => none) none none (fun _ _ => none) none (fun _ _ _ _ => none) none (fun _ => none) none (fun _ => none) (fun _ _ _ _ _ => none) none (fun _ _ => none) none (fun l _ => some l) (fun _ _ => none) (fun _ => none) (fun _ _ => none) none (fun _ _ _ _ => none) v
noncomputable def asU (v : SV) : Option (List SV) := SV.rec (motive_1 := fun _ => Option (List SV)) (motive_2 := fun _ => Option (List SV)) (fun _ _ => none) (fun _ _ => none) (fun _ _ => none) none none (fun _ _ => none) none (fun _ _ _ _ => none) none (fun _ => none) none (fun _ => none) (fun _ _ _ _ _ => none) none (fun _ _ => none) none (fun _ _ => none) (fun l _ => some l) (fun _ => none) (fun _ _ => none) none (fun _ _ _ _ => none) v
noncomputable def isNc (v : SV) : Bool := SV.rec (motive_1 := fun _ => Bool) (motive_2 := fun _ => Bool) (fun _ _ => false) (fun _ _ => false) (fun _ _ => false) false false (fun _ _ => true) false (fun _ _ _ _ => false) false (fun _ => false) false (fun _ => false) (fun _ _ _ _ _ => true) false (fun _ _ => false) false (fun _ _ => false) (fun _ _ => false) (fun _ => false) (fun _ _ => false) false (fun _ _ _ _ => false) v
noncomputable def isOne (v : SV) : Bool := SV.rec (motive_1 := fun _ => Bool) (motive_2 := fun _ => Bool) (fun _ _ => true) (fun _ _ => true) (fun _ _ => true) true true (fun _ _ => true) true (fun _ _ _ _ => true) true (fun _ => true) true (fun _ => true) (fun _ _ _ _ _ => true) true (fun _ _ => true) false (fun _ _ => false) (fun _ _ => false) (fun _ => false) (fun _ _ => true) true (fun _ _ _ _ => true) v
inductive S4 where
  | no
  | ns
  | yes (b o l c : Nat)
noncomputable def asS (v : SV) : S4 := SV.rec (motive_1 := fun _ => S4) (motive_2 := fun _ => S4) (fun _ _ => .no) (fun _ _ => .no) (fun _ _ => .no) .no .no (fun _ _ => .no) .no (fun b o l c => .yes b o l c) .ns (fun _ => .no) .no (fun _ => .no) (fun _ _ _ _ _ => .no) .no (fun _ _ => .no) .no (fun _ _ => .no) (fun _ _ => .no) (fun _ => .no) (fun _ _ => .no) .no (fun _ _ _ _ => .no) v
theorem asS_yes {v : SV} {b o l c : Nat} (h : asS v = .yes b o l c) : v = .sl b o l c := by cases v <;> cases h <;> rfl
theorem asS_ns {v : SV} (h : asS v = .ns) : v = .ns := by cases v <;> cases h <;> rfl
theorem asN_yes {v : SV} {k : IntKind} {a : Nat} (h : asN v = .yes k a) : v = .n k a := by cases v <;> cases h <;> rfl
theorem asP_yes {v : SV} {b o : Nat} (h : asP v = .yes b o) : v = .p b o := by cases v <;> cases h <;> rfl
theorem asB_t {v : SV} (h : asB v = .t) : v = .t := by cases v <;> cases h <;> rfl
theorem asB_f {v : SV} (h : asB v = .f) : v = .f := by cases v <;> cases h <;> rfl
theorem asB_u {v : SV} (h : asB v = .u) : v = .u := by cases v <;> cases h <;> rfl
theorem asA_some {v : SV} {l : List SV} (h : asA v = some l) : v = .ag l := by cases v <;> cases h <;> rfl
theorem asU_some {v : SV} {l : List SV} (h : asU v = some l) : v = .tu l := by cases v <;> cases h <;> rfl
/-! Trees -/
inductive Pth where
  | z
  | l (p : Pth)
  | r (p : Pth)
noncomputable section
def pthF (f : Nat) : Nat → Pth := Nat.rec (motive := fun _ => Nat → Pth) (fun _ => .z) (fun _ ih n => Nat.rec (motive := fun _ => Pth) .z (fun k _ => Nat.rec (motive := fun _ => Pth) (.l (ih (Nat.div k 2))) (fun _ _ => .r (ih (Nat.div k 2))) (Nat.mod k 2)) n) f
/-- The way to a number. -/
def pth (n : Nat) : Pth := pthF (Nat.succ n) n
def bnd {α : Type} (r : Option α) (K : α → Bool) : Bool := Option.rec (motive := fun _ => Bool) false K r
theorem bnd_true {α : Type} {r : Option α} {K : α → Bool} (h : bnd r K = true) : ∃ a, r = some a ∧ K a = true := by
  cases r with
  | none => cases h
  | some a => exact ⟨a, rfl, h⟩
section
variable {α : Type}
def gO (p : Pth) : Tr α → Option α :=
  Pth.rec (motive := fun _ => Tr α → Option α) (fun t => Tr.rec (motive := fun _ => Option α) none (fun _ v _ _ _ => v) t) (fun _ ih t => Tr.rec (motive := fun _ => Option α) none (fun l _ _ _ _ => ih l) t) (fun _ ih t => Tr.rec (motive := fun _ => Option α) none (fun _ _ r _ _ => ih r) t) p
def gP (p : Pth) : Tr α → (α → Bool) → Bool :=
  Pth.rec (motive := fun _ => Tr α → (α → Bool) → Bool) (fun t K => Tr.rec (motive := fun _ => Bool) false (fun _ v _ _ _ => Option.rec (motive := fun _ => Bool) false K v) t) (fun _ ih t K => Tr.rec (motive := fun _ => Bool) false (fun l _ _ _ _ => ih l K) t) (fun _ ih t K => Tr.rec (motive := fun _ => Bool) false (fun _ _ r _ _ => ih r K) t) p
def pP (p : Pth) (v : Option α) : Tr α → (Tr α → Bool) → Bool :=
  Pth.rec (motive := fun _ => Tr α → (Tr α → Bool) → Bool) (fun t K => Tr.rec (motive := fun _ => Bool) (K (.nd .lf v .lf)) (fun l _ r _ _ => K (.nd l v r)) t)
   (fun _ ih t K => Tr.rec (motive := fun _ => Bool) (ih .lf fun l => K (.nd l none .lf)) (fun l x r _ _ => ih l fun l => K (.nd l x r)) t)
   (fun _ ih t K => Tr.rec (motive := fun _ => Bool) (ih .lf fun r => K (.nd .lf none r)) (fun l x r _ _ => ih r fun r => K (.nd l x r)) t) p
theorem pthF_z (f : Nat) : pthF (f + 1) 0 = .z := rfl
theorem pthF_s (f k : Nat) : pthF (f + 1) (k + 1) = bif (k % 2).beq 0 then .l (pthF f (k / 2)) else .r (pthF f (k / 2)) := by
  show (Nat.rec (motive := fun _ => Pth) (.l (pthF f (k / 2))) (fun _ _ => .r (pthF f (k / 2))) (k % 2)) = _
  cases k % 2 <;> rfl
theorem gO_l (p : Pth) (t : Tr α) : gO (.l p) t = gO p t.left ∨ t = .lf := by cases t <;> simp [gO, Tr.left]
theorem gO_lf (p : Pth) : gO p (.lf : Tr α) = none := by cases p <;> rfl
theorem gO_F : ∀ (f n : Nat) (t : Tr α), n < f → gO (pthF f n) t = t.get n := by
  intro f
  induction f with
  | zero => intro n t h; omega
  | succ f ih =>
    intro n t h
    cases n with
    | zero => cases t <;> rfl
    | succ k =>
      rw [pthF_s]
      cases hb : (k % 2).beq 0
      · simp only [cond_false]
        cases t with
        | lf => simp [gO, Tr.get]
        | nd l v r =>
          show gO (pthF f (k / 2)) r = _
          rw [ih _ _ (by omega)]; simp [Tr.get, hb]
      · simp only [cond_true]
        cases t with
        | lf => simp [gO, Tr.get]
        | nd l v r =>
          show gO (pthF f (k / 2)) l = _
          rw [ih _ _ (by omega)]; simp [Tr.get, hb]
theorem gO_eq (n : Nat) (t : Tr α) : gO (pth n) t = t.get n := gO_F _ _ _ (Nat.lt_succ_self n)
theorem gP_gO (p : Pth) : ∀ (t : Tr α) (K : α → Bool), gP p t K = bnd (gO p t) K := by
  induction p with
  | z => intro t K; cases t <;> rfl
  | l p ih => intro t K; cases t with
    | lf => rfl
    | nd l v r => exact ih l K
  | r p ih => intro t K; cases t with
    | lf => rfl
    | nd l v r => exact ih r K
theorem gP_true {n : Nat} {t : Tr α} {K : α → Bool} (h : gP (pth n) t K = true) : ∃ v, t.get n = some v ∧ K v = true := by
  rw [gP_gO, gO_eq] at h; exact bnd_true h
theorem pP_F : ∀ (f n : Nat) (v : Option α) (t : Tr α) (K : Tr α → Bool), n < f → pP (pthF f n) v t K = K (Tr.putF f t n v) := by
  intro f
  induction f with
  | zero => intro n v t K h; omega
  | succ f ih =>
    intro n v t K h
    cases n with
    | zero => cases t <;> rfl
    | succ k =>
      rw [pthF_s]
      simp only [Tr.putF]
      cases hb : (k % 2).beq 0
      · simp only [cond_false]
        cases t with
        | lf =>
          show pP (pthF f (k / 2)) v .lf _ = _
          rw [ih _ _ _ _ (by omega)]; rfl
        | nd l x r =>
          show pP (pthF f (k / 2)) v r _ = _
          rw [ih _ _ _ _ (by omega)]; rfl
      · simp only [cond_true]
        cases t with
        | lf =>
          show pP (pthF f (k / 2)) v .lf _ = _
          rw [ih _ _ _ _ (by omega)]; rfl
        | nd l x r =>
          show pP (pthF f (k / 2)) v l _ = _
          rw [ih _ _ _ _ (by omega)]; rfl
theorem pP_eq (n : Nat) (v : Option α) (t : Tr α) (K : Tr α → Bool) : pP (pth n) v t K = K (t.put n v) := pP_F _ _ _ _ _ (Nat.lt_succ_self n)
end
end
def Tr.map {α β : Type} (f : α → β) : Tr α → Tr β
  | .lf => .lf
  | .nd l v r => .nd (Tr.map f l) (v.map f) (Tr.map f r)
theorem Tr.get_map {α β : Type} (f : α → β) : ∀ (t : Tr α) (n : Nat), (t.map f).get n = (t.get n).map f := by
  intro t
  induction t with
  | lf => intro n; simp [Tr.map, Tr.get]
  | nd l v r ihl ihr =>
    intro n
    cases n with
    | zero => rfl
    | succ k =>
      simp only [Tr.map, Tr.get, ihl, ihr]
      cases (k % 2).beq 0 <;> rfl
theorem Tr.left_map {α β : Type} (f : α → β) (t : Tr α) : (t.map f).left = t.left.map f := by cases t <;> rfl
theorem Tr.right_map {α β : Type} (f : α → β) (t : Tr α) : (t.map f).right = t.right.map f := by cases t <;> rfl
theorem Tr.top_map {α β : Type} (f : α → β) (t : Tr α) : (t.map f).top = t.top.map f := by cases t <;> rfl
theorem Tr.putF_map {α β : Type} (f : α → β) : ∀ (k : Nat) (t : Tr α) (n : Nat) (v : Option α), (Tr.putF k t n v).map f = Tr.putF k (t.map f) n (v.map f) := by
  intro k
  induction k with
  | zero => intro t n v; rfl
  | succ k ih =>
    intro t n v
    cases n with
    | zero => simp only [Tr.putF, Tr.map, Tr.left_map, Tr.right_map]
    | succ n =>
      simp only [Tr.putF]
      cases (n % 2).beq 0
      · simp only [cond_false, Tr.map, Tr.left_map, Tr.right_map, Tr.top_map, ih]
      · simp only [cond_true, Tr.map, Tr.left_map, Tr.right_map, Tr.top_map, ih]
theorem Tr.put_map {α β : Type} (f : α → β) (t : Tr α) (n : Nat) (v : Option α) : (t.put n v).map f = (t.map f).put n (v.map f) := Tr.putF_map f _ _ _ _
/-! Blocks -/
/-- Cells, up to 4096. -/
abbrev C4 := Nest 4 SV
inductive Cs where
  | ls (l : List SV)
  | tr (zs : List (Nat × SV)) (t : Tr SV)
  | a (n : Nat) (x : C4)
def baseL (zs : List (Nat × SV)) : List SV := zs.flatMap fun p => List.replicate p.1 p.2
theorem flatZ_inst (ρ : Nat → Nat) (zs : List (Nat × Z0)) : flatZ zs = (baseL (Z0.ps zs)).map (SV.inst ρ) := by
  induction zs with
  | nil => rfl
  | cons p r ih =>
    have e1 : flatZ (p :: r) = List.replicate p.1 p.2.val ++ flatZ r := rfl
    have e2 : baseL (Z0.ps (p :: r)) = List.replicate p.1 p.2.sv ++ baseL (Z0.ps r) := rfl
    rw [e1, e2, ih, List.map_append, List.map_replicate, Z0.sv_inst]
def Cs.toL : Cs → List SV
  | .ls q => q
  | .tr zs q => (baseL zs).mapIdx fun i d => (q.get i).getD d
  | .a n x => (List.range n).map fun i => nAt i 4 x
theorem toL_a_len (n : Nat) (x : C4) : (Cs.a n x).toL.length = n := by simp [Cs.toL]
theorem toL_a_at (n : Nat) (x : C4) (i : Nat) : (Cs.a n x).toL[i]? = if i < n then some (nAt i 4 x) else none := by
  simp only [Cs.toL, List.getElem?_map]
  by_cases h : i < n
  · rw [List.getElem?_range h, if_pos h]; rfl
  · rw [List.getElem?_eq_none (by simpa using h), if_neg h]; rfl
theorem toL_a_set {n : Nat} (hn : n ≤ 4096) {i : Nat} (hi : i < n) (v : SV) (x : C4) : (Cs.a n (nSet i v 4 x)).toL = (Cs.a n x).toL.set i v := by
  apply List.ext_getElem?
  intro j
  rw [List.getElem?_set, toL_a_at, toL_a_at, toL_a_len, nAt_nSet]
  have e : (8 : Nat) ^ 4 = 4096 := rfl
  rw [e]
  by_cases h : i = j
  · subst h
    rw [if_pos hi, if_pos rfl, if_pos rfl, if_pos hi]
  · rw [if_neg h]
    by_cases hj : j < n
    · rw [if_pos hj, if_pos hj, if_neg]
      rw [Nat.mod_eq_of_lt (by omega), Nat.mod_eq_of_lt (by omega)]
      exact fun e => h e.symm
    · rw [if_neg hj, if_neg hj]
structure SOb where
  c : Cs
  e : TypeId
  r : Bool
def SOb.inst (ρ : Nat → Nat) (o : SOb) : Ob := ⟨o.c.toL.map (SV.inst ρ), o.e, o.r⟩
/-! Memory: up to 32767 blocks -/
abbrev HT := Nest 5 (Option SOb)
def hAt (b : Nat) (t : HT) : Option SOb := nAt b 5 t
def instH (ρ : Nat → Nat) (t : HT) (n : Nat) : Heap := ⟨full 15 fun b => (hAt b t).map (SOb.inst ρ), n⟩
theorem get_instH {ρ : Nat → Nat} {t : HT} {n b : Nat} (h : b < 32767) : (instH ρ t n).get b = (hAt b t).map (SOb.inst ρ) := full_get 15 (fun b => (hAt b t).map (SOb.inst ρ)) b (show b + 1 < 2 ^ 15 by omega)
theorem set_instH (ρ : Nat → Nat) {t : HT} {n b : Nat} (h : b < 32767) (o : Option SOb) : (instH ρ (nSet b o 5 t) n) = ⟨(instH ρ t n).t.put b (o.map (SOb.inst ρ)), n⟩ := by
  have e : (instH ρ t n).t.put b (o.map (SOb.inst ρ)) = _ := full_put (d := 15) (f := fun b => (hAt b t).map (SOb.inst ρ)) (show b + 1 < 2 ^ 15 by omega)
  rw [e]
  unfold instH
  congr 1
  have e5 : (8 : Nat) ^ 5 = 32768 := rfl
  have key : ∀ (d : Nat) (f g : Nat → Option Ob), (∀ j, j + 1 < 2 ^ d → f j = g j) → full d f = full d g := by
    intro d
    induction d with
    | zero => intro f g _; rfl
    | succ d ih =>
      intro f g hfg
      have hp : 0 < 2 ^ d := Nat.two_pow_pos d
      rw [Nat.pow_succ] at hfg
      simp only [full]
      rw [hfg 0 (by omega), ih _ _ fun j hj => hfg (2 * j + 1) (by omega), ih _ _ fun j hj => hfg (2 * j + 2) (by omega)]
  refine key _ _ _ fun j hj => ?_
  have hj : j < 32767 := by
    have : (2 : Nat) ^ 15 = 32768 := rfl
    omega
  unfold hAt
  rw [nAt_nSet, e5, Nat.mod_eq_of_lt (show j < 32768 by omega), Nat.mod_eq_of_lt (show b < 32768 by omega)]
  by_cases hjb : j = b
  · rw [if_pos hjb, if_pos hjb]
  · rw [if_neg hjb, if_neg hjb]
theorem put_instH (ρ : Nat → Nat) {t : HT} {n b : Nat} (h : b < 32767) (o : SOb) : instH ρ (nSet b (some o) 5 t) n = (instH ρ t n).put b (o.inst ρ) := set_instH ρ h (some o)
theorem kill_instH (ρ : Nat → Nat) {t : HT} {n b : Nat} (h : b < 32767) : instH ρ (nSet b none 5 t) n = (instH ρ t n).kill b := set_instH ρ h none
theorem push_instH (ρ : Nat → Nat) {t : HT} {n : Nat} (h : n < 32767) (o : SOb) : instH ρ (nSet n (some o) 5 t) (n + 1) = (instH ρ t n).push (o.inst ρ) := by
  have := put_instH ρ (t := t) (n := n) h o
  have e := congrArg Heap.t this
  show (⟨(instH ρ (nSet n (some o) 5 t) n).t, n + 1⟩ : Heap) = ⟨(instH ρ t n).t.put n (some (o.inst ρ)), n + 1⟩
  rw [e]; rfl
/-! Cells -/
noncomputable section
def nthK {α : Type} (l : List α) : Nat → (α → Bool) → Bool := List.rec (motive := fun _ => Nat → (α → Bool) → Bool) (fun _ _ => false) (fun a _ ih n K => Nat.rec (motive := fun _ => Bool) (K a) (fun m _ => ih m K) n) l
theorem nthK_true {α : Type} {l : List α} : ∀ {n : Nat} {K : α → Bool}, nthK l n K = true → ∃ a, l[n]? = some a ∧ K a = true := by
  induction l with
  | nil => intro n K h; cases h
  | cons a l ih =>
    intro n K h
    cases n with
    | zero => exact ⟨a, rfl, h⟩
    | succ n => obtain ⟨b, h1, h2⟩ := ih (n := n) h; exact ⟨b, by simpa using h1, h2⟩
/-- Which value stands at a place where none was laid. -/
def dflK (zs : List (Nat × SV)) : Nat → (SV → Bool) → Bool := List.rec (motive := fun _ => Nat → (SV → Bool) → Bool) (fun _ _ => false) (fun p _ ih i K => Bool.rec (motive := fun _ => Bool) (ih (Nat.sub i p.1) K) (K p.2) (Nat.blt i p.1)) zs
theorem dflK_true : ∀ {zs : List (Nat × SV)} {i : Nat} {K : SV → Bool}, dflK zs i K = true → ∃ v, (baseL zs)[i]? = some v ∧ K v = true := by
  intro zs
  induction zs with
  | nil => intro i K h; cases h
  | cons p zs ih =>
    intro i K h
    have h : (Bool.rec (motive := fun _ => Bool) (dflK zs (i - p.1) K) (K p.2) (Nat.blt i p.1)) = true := h
    have hb : baseL (p :: zs) = List.replicate p.1 p.2 ++ baseL zs := rfl
    rw [hb]
    cases hlt : Nat.blt i p.1
    · rw [hlt] at h
      have hge : p.1 ≤ i := by
        have : ¬ i < p.1 := fun q => by rw [show Nat.blt i p.1 = true from Nat.ble_eq_true_of_le q] at hlt; cases hlt
        omega
      obtain ⟨v, h1, h2⟩ := ih h
      exact ⟨v, by rw [List.getElem?_append_right (by simpa using hge)]; simpa using h1, h2⟩
    · rw [hlt] at h
      have hl : i < p.1 := Nat.le_of_ble_eq_true hlt
      exact ⟨p.2, by rw [List.getElem?_append_left (by simpa using hl)]; simp [hl], h⟩
def tGet (zs : List (Nat × SV)) (tr : Tr SV) (i : Nat) (K : SV → Bool) : Bool := Option.rec (motive := fun _ => Bool) (dflK zs i K) (fun v => dflK zs i fun _ => K v) (gO (pth i) tr)
theorem tGet_true {zs : List (Nat × SV)} {tr : Tr SV} {i : Nat} {K : SV → Bool} (h : tGet zs tr i K = true) : ∃ v, (Cs.tr zs tr).toL[i]? = some v ∧ K v = true := by
  unfold tGet at h
  simp only [Cs.toL, List.getElem?_mapIdx]
  cases hg : gO (pth i) tr with
  | none =>
    rw [hg] at h
    obtain ⟨v, h1, h2⟩ := dflK_true h
    rw [gO_eq] at hg
    exact ⟨v, by rw [h1, hg]; rfl, h2⟩
  | some v =>
    rw [hg] at h
    obtain ⟨u1, h1, h2⟩ := dflK_true h
    rw [gO_eq] at hg
    exact ⟨v, by rw [h1, hg]; rfl, h2⟩
noncomputable def cG (n i : Nat) : Bx (C4 → (SV → Bool) → Bool) := Bool.rec (motive := fun _ => Bx (C4 → (SV → Bool) → Bool)) (.mk fun _ _ => false) (Bx.rec (motive := fun _ => Bx (C4 → (SV → Bool) → Bool)) (fun g => .mk fun x K => K (g x)) (nG 4 i)) (Nat.ble (Nat.succ i) n)
theorem cG_true {n i : Nat} {x : C4} {K : SV → Bool} (h : Bx.rec (motive := fun _ => Bool) (fun g => g x K) (cG n i) = true) : i < n ∧ K (nAt i 4 x) = true := by
  unfold cG at h
  cases hb : Nat.ble (Nat.succ i) n
  · rw [hb] at h; cases h
  · rw [hb, nG_eq] at h
    exact ⟨Nat.le_of_ble_eq_true hb, h⟩
/-- The cell at a place. -/
def cgK (c : Cs) (i : Nat) (K : SV → Bool) : Bool := Cs.rec (motive := fun _ => Bool) (fun l => nthK l i K) (fun zs tr => tGet zs tr i K) (fun n x => Bx.rec (motive := fun _ => Bool) (fun g => g x K) (cG n i)) c
theorem cgK_true {c : Cs} {i : Nat} {K : SV → Bool} (h : cgK c i K = true) : ∃ v, c.toL[i]? = some v ∧ K v = true := by
  cases c with
  | ls l =>
    show ∃ v, l[i]? = some v ∧ K v = true
    exact nthK_true h
  | tr zs tr => exact tGet_true h
  | a n x =>
    obtain ⟨h1, h2⟩ := cG_true (n := n) (i := i) h
    exact ⟨_, by rw [toL_a_at, if_pos h1], h2⟩
def dropK {α : Type} (n : Nat) : List α → (List α → Bool) → Bool := Nat.rec (motive := fun _ => List α → (List α → Bool) → Bool) (fun l K => K l) (fun _ ih l K => List.rec (motive := fun _ => Bool) (K []) (fun _ t _ => ih t K) l) n
theorem dropK_eq {α : Type} (n : Nat) : ∀ (l : List α) K, dropK n l K = K (l.drop n) := by
  induction n with
  | zero => intro l K; rfl
  | succ n ih =>
    intro l K
    cases l with
    | nil => rfl
    | cons a l => exact ih l K
def takeK {α : Type} (n : Nat) : List α → (List α → Bool) → Bool := Nat.rec (motive := fun _ => List α → (List α → Bool) → Bool) (fun l K => K []) (fun _ ih l K => List.rec (motive := fun _ => Bool) false (fun a t _ => ih t fun r => K (a :: r)) l) n
theorem takeK_true {α : Type} : ∀ (n : Nat) {l : List α} {K : List α → Bool}, takeK n l K = true → (l.take n).length = n ∧ K (l.take n) = true := by
  intro n
  induction n with
  | zero => intro l K h; exact ⟨by simp, h⟩
  | succ n ih =>
    intro l K h
    cases l with
    | nil => cases h
    | cons a l =>
      obtain ⟨h1, h2⟩ := ih (K := fun r => K (a :: r)) h
      exact ⟨by rw [List.take_succ_cons, List.length_cons, h1], h2⟩
def tRow (zs : List (Nat × SV)) (tr : Tr SV) (n : Nat) : Nat → (List SV → Bool) → Bool := Nat.rec (motive := fun _ => Nat → (List SV → Bool) → Bool) (fun i K => K []) (fun _ ih i K => tGet zs tr i fun v => fN (Nat.succ i) fun j => ih j fun l => K (v :: l)) n
theorem tRow_true {zs : List (Nat × SV)} {tr : Tr SV} : ∀ (n : Nat) {i : Nat} {K : List SV → Bool}, tRow zs tr n i K = true → (((Cs.tr zs tr).toL.drop i).take n).length = n ∧ K (((Cs.tr zs tr).toL.drop i).take n) = true := by
  intro n
  induction n with
  | zero => intro i K h; exact ⟨by simp, h⟩
  | succ n ih =>
    intro i K h
    have h : tGet zs tr i (fun v => fN (Nat.succ i) fun j => tRow zs tr n j fun l => K (v :: l)) = true := h
    obtain ⟨v, h1, h2⟩ := tGet_true h
    rw [fN_eq] at h2
    obtain ⟨h3, h4⟩ := ih h2
    obtain ⟨hlt, hv⟩ := List.getElem?_eq_some_iff.1 h1
    rw [List.drop_eq_getElem_cons hlt, List.take_succ_cons, hv]
    exact ⟨by rw [List.length_cons, h3], h4⟩
def rL (k : Nat) : Nat → Bx (C4 → List SV) := Nat.rec (motive := fun _ => Nat → Bx (C4 → List SV)) (fun _ => .mk fun _ => []) (fun _ ih i => Bx.rec (motive := fun _ => Bx (C4 → List SV)) (fun g => Bx.rec (motive := fun _ => Bx (C4 → List SV)) (fun r => .mk fun x => g x :: r x) (ih (Nat.succ i))) (nG 4 i)) k
theorem rL_eq (k : Nat) : ∀ i, rL k i = .mk fun x => (List.range' i k).map fun j => nAt j 4 x := by
  induction k with
  | zero => intro i; rfl
  | succ k ih =>
    intro i
    show (Bx.rec (motive := fun _ => Bx (C4 → List SV)) (fun g => Bx.rec (motive := fun _ => Bx (C4 → List SV)) (fun r => .mk fun x => g x :: r x) (rL k (Nat.succ i))) (nG 4 i)) = _
    rw [nG_eq, ih]
    rfl
def rG (n i k : Nat) : Bx (C4 → (List SV → Bool) → Bool) := Bool.rec (motive := fun _ => Bx (C4 → (List SV → Bool) → Bool)) (.mk fun _ _ => false) (Bx.rec (motive := fun _ => Bx (C4 → (List SV → Bool) → Bool)) (fun g => .mk fun x K => K (g x)) (rL k i)) (Nat.ble (Nat.add i k) n)
theorem rG_true {n i k : Nat} {x : C4} {K : List SV → Bool} (h : Bx.rec (motive := fun _ => Bool) (fun g => g x K) (rG n i k) = true) : i + k ≤ n ∧ K (((Cs.a n x).toL.drop i).take k) = true := by
  unfold rG at h
  cases hb : Nat.ble (Nat.add i k) n
  · rw [hb] at h; cases h
  · rw [hb, rL_eq] at h
    have hle : i + k ≤ n := Nat.le_of_ble_eq_true hb
    refine ⟨hle, ?_⟩
    have e : ((Cs.a n x).toL.drop i).take k = (List.range' i k).map fun j => nAt j 4 x := by
      simp only [Cs.toL]
      rw [← List.map_drop, ← List.map_take]
      congr 1
      rw [List.range_eq_range']
      apply List.ext_getElem?
      intro j
      rw [List.getElem?_take]
      by_cases hj : j < k
      · rw [if_pos hj, List.getElem?_drop, List.getElem?_range' (by omega), List.getElem?_range' hj]; simp
      · rw [if_neg hj, List.getElem?_eq_none (by simpa using hj)]
    rw [e]; exact h
/-- Cells one behind the other. -/
def crK (c : Cs) (i n : Nat) (K : List SV → Bool) : Bool := Cs.rec (motive := fun _ => Bool) (fun l => dropK i l fun l => takeK n l K) (fun zs tr => tRow zs tr n i K) (fun m x => Bx.rec (motive := fun _ => Bool) (fun g => g x K) (rG m i n)) c
theorem crK_true {c : Cs} {i n : Nat} {K : List SV → Bool} (h : crK c i n K = true) : ((c.toL.drop i).take n).length = n ∧ K ((c.toL.drop i).take n) = true := by
  cases c with
  | ls l =>
    have h : dropK i l (fun l => takeK n l K) = true := h
    rw [dropK_eq] at h
    show ((l.drop i).take n).length = n ∧ K ((l.drop i).take n) = true
    exact takeK_true n h
  | tr zs tr => exact tRow_true n h
  | a m x =>
    obtain ⟨h1, h2⟩ := rG_true (n := m) (i := i) (k := n) h
    exact ⟨by rw [List.length_take, List.length_drop, toL_a_len]; omega, h2⟩
/-! Writing -/
def setK (l : List SV) : Nat → SV → (List SV → Bool) → Bool := List.rec (motive := fun _ => Nat → SV → (List SV → Bool) → Bool) (fun _ _ _ => false) (fun a t ih n v K => Nat.rec (motive := fun _ => Bool) (K (v :: t)) (fun m _ => ih m v fun r => K (a :: r)) n) l
theorem setK_true : ∀ {l : List SV} {n : Nat} {v : SV} {K : List SV → Bool}, setK l n v K = true → n < l.length ∧ K (l.set n v) = true := by
  intro l
  induction l with
  | nil => intro n v K h; cases h
  | cons a l ih =>
    intro n v K h
    cases n with
    | zero => exact ⟨by simp, h⟩
    | succ n => obtain ⟨h1, h2⟩ := ih (n := n) (K := fun r => K (a :: r)) h; exact ⟨by simp; omega, h2⟩
def tSet (zs : List (Nat × SV)) (tr : Tr SV) (i : Nat) (v : SV) (K : Tr SV → Bool) : Bool := dflK zs i fun _ => pP (pth i) (some v) tr K
theorem baseL_at {zs : List (Nat × SV)} {i : Nat} {v : SV} (h : (baseL zs)[i]? = some v) : i < (baseL zs).length := (List.getElem?_eq_some_iff.1 h).1
theorem toL_len (zs : List (Nat × SV)) (tr : Tr SV) : (Cs.tr zs tr).toL.length = (baseL zs).length := by simp [Cs.toL]
theorem toL_put (zs : List (Nat × SV)) (tr : Tr SV) (i : Nat) (v : SV) : (Cs.tr zs (tr.put i (some v))).toL = (Cs.tr zs tr).toL.set i v := by
  apply List.ext_getElem?
  intro j
  rw [List.getElem?_set]
  simp only [Cs.toL, List.getElem?_mapIdx, Tr.get_put, List.length_mapIdx]
  by_cases h : i = j
  · subst h
    rw [if_pos rfl, if_pos rfl]
    cases hb : (baseL zs)[i]? with
    | none =>
      have := List.getElem?_eq_none_iff.1 hb
      rw [if_neg (by omega)]; rfl
    | some x => rw [if_pos (baseL_at hb)]; rfl
  · rw [if_neg h, if_neg (fun e => h e.symm)]
theorem tSet_true {zs : List (Nat × SV)} {tr : Tr SV} {i : Nat} {v : SV} {K : Tr SV → Bool} (h : tSet zs tr i v K = true) : ∃ tr', (Cs.tr zs tr').toL = (Cs.tr zs tr).toL.set i v ∧ i < (Cs.tr zs tr).toL.length ∧ K tr' = true := by
  unfold tSet at h
  obtain ⟨u1, h1, h2⟩ := dflK_true h
  rw [pP_eq] at h2
  exact ⟨_, toL_put zs tr i v, by rw [toL_len]; exact baseL_at h1, h2⟩
def cP (n i : Nat) : Bx (SV → C4 → (C4 → Bool) → Bool) := Bool.rec (motive := fun _ => Bx (SV → C4 → (C4 → Bool) → Bool)) (.mk fun _ _ _ => false) (Bool.rec (motive := fun _ => Bx (SV → C4 → (C4 → Bool) → Bool)) (.mk fun _ _ _ => false) (nP 4 i) (Nat.ble n 4096)) (Nat.ble (Nat.succ i) n)
theorem cP_true {n i : Nat} {v : SV} {x : C4} {K : C4 → Bool} (h : Bx.rec (motive := fun _ => Bool) (fun g => g v x K) (cP n i) = true) : i < n ∧ n ≤ 4096 ∧ K (nSet i v 4 x) = true := by
  unfold cP at h
  cases hb : Nat.ble (Nat.succ i) n
  · rw [hb] at h; cases h
  · cases hc : Nat.ble n 4096
    · rw [hb, hc] at h; cases h
    · rw [hb, hc, nP_eq] at h
      exact ⟨Nat.le_of_ble_eq_true hb, Nat.le_of_ble_eq_true hc, h⟩
/-- One cell is written. -/
def c1K (c : Cs) (i : Nat) (v : SV) (K : Cs → Bool) : Bool := Cs.rec (motive := fun _ => Bool) (fun l => setK l i v fun l => K (.ls l)) (fun zs tr => tSet zs tr i v fun tr => K (.tr zs tr)) (fun n x => Bx.rec (motive := fun _ => Bool) (fun g => g v x fun x => K (.a n x)) (cP n i)) c
theorem c1K_true {c : Cs} {i : Nat} {v : SV} {K : Cs → Bool} (h : c1K c i v K = true) : ∃ c', c'.toL = c.toL.set i v ∧ i < c.toL.length ∧ K c' = true := by
  cases c with
  | ls l => obtain ⟨h1, h2⟩ := setK_true (K := fun l => K (.ls l)) h; exact ⟨.ls (l.set i v), rfl, h1, h2⟩
  | tr zs tr => obtain ⟨tr', h1, h2, h3⟩ := tSet_true (K := fun tr => K (.tr zs tr)) h; exact ⟨_, h1, h2, h3⟩
  | a n x =>
    obtain ⟨h1, h2, h3⟩ := cP_true (n := n) (i := i) (v := v) (x := x) (K := fun x => K (.a n x)) h
    exact ⟨_, toL_a_set h2 h1 v x, by rw [toL_a_len]; exact h1, h3⟩
def cwK (vs : List SV) : Nat → Cs → (Cs → Bool) → Bool := List.rec (motive := fun _ => Nat → Cs → (Cs → Bool) → Bool) (fun _ c K => K c) (fun v _ ih i c K => c1K c i v fun c => fN (Nat.succ i) fun j => ih j c K) vs
theorem cwK_true : ∀ {vs : List SV} {i : Nat} {c : Cs} {K : Cs → Bool}, cwK vs i c K = true → i ≤ c.toL.length → ∃ c', c'.toL = c.toL.take i ++ vs ++ c.toL.drop (i + vs.length) ∧ i + vs.length ≤ c.toL.length ∧ K c' = true := by
  intro vs
  induction vs with
  | nil => intro i c K h hi; exact ⟨c, by simp, by simpa using hi, h⟩
  | cons v vs ih =>
    intro i c K h hi
    have h : c1K c i v (fun c => fN (Nat.succ i) fun j => cwK vs j c K) = true := h
    obtain ⟨c', h1, h2, h3⟩ := c1K_true h
    rw [fN_eq] at h3
    obtain ⟨c2, h4, h5, h6⟩ := ih h3 (by rw [h1, List.length_set]; omega)
    rw [h1, List.length_set] at h5
    refine ⟨c2, ?_, by rw [List.length_cons]; omega, h6⟩
    rw [h4, h1]
    have e1 : (c.toL.set i v).take (i + 1) = c.toL.take i ++ [v] := by
      rw [List.take_add_one, List.take_set, List.set_eq_of_length_le (by rw [List.length_take]; omega), List.getElem?_set_self h2]; rfl
    have e2 : (c.toL.set i v).drop (i + 1 + vs.length) = c.toL.drop (i + (v :: vs).length) := by
      rw [List.drop_set_of_lt (by omega)]
      congr 1; simp only [List.length_cons]; omega
    rw [show Nat.succ i = i + 1 from rfl, e1, e2]
    simp
/-! Rows are laid -/
def layN (k : Nat) : List SV → (Nest k SV → List SV → Bool) → Bool := Nat.rec (motive := fun k => List SV → (Nest k SV → List SV → Bool) → Bool) (fun l K => List.rec (motive := fun _ => Bool) (K .u []) (fun v r _ => K v r) l)
  (fun k ih l K => List.rec (motive := fun _ => Bool) (K (nRep .u (k + 1)) []) (fun _ _ _ => ih l fun a0 l => ih l fun a1 l => ih l fun a2 l => ih l fun a3 l => ih l fun a4 l => ih l fun a5 l => ih l fun a6 l => ih l fun a7 l => K (.mk a0 a1 a2 a3 a4 a5 a6 a7) l) l) k
theorem layN_true : ∀ (k : Nat) {l : List SV} {K : Nest k SV → List SV → Bool}, layN k l K = true → ∃ x, (∀ i, i < 8 ^ k → nAt i k x = (l[i]?).getD .u) ∧ K x (l.drop (8 ^ k)) = true := by
  intro k
  induction k with
  | zero =>
    intro l K h
    cases l with
    | nil => exact ⟨.u, fun i _ => rfl, h⟩
    | cons v r => exact ⟨v, fun i hi => by obtain rfl : i = 0 := by simpa using hi
                                           rfl, h⟩
  | succ k ih =>
    intro l K h
    cases l with
    | nil =>
      refine ⟨nRep .u (k + 1), fun i _ => ?_, ?_⟩
      · rw [nAt_rep]; simp
      · rw [List.drop_nil]; exact h
    | cons v r =>
      generalize hl : v :: r = l at h
      subst hl
      have h : (layN k (v :: r) fun a0 l => layN k l fun a1 l => layN k l fun a2 l => layN k l fun a3 l => layN k l fun a4 l => layN k l fun a5 l => layN k l fun a6 l => layN k l fun a7 l => K (.mk a0 a1 a2 a3 a4 a5 a6 a7) l) = true := h
      generalize v :: r = l at h
      obtain ⟨a0, g0, h⟩ := ih h
      obtain ⟨a1, g1, h⟩ := ih h
      obtain ⟨a2, g2, h⟩ := ih h
      obtain ⟨a3, g3, h⟩ := ih h
      obtain ⟨a4, g4, h⟩ := ih h
      obtain ⟨a5, g5, h⟩ := ih h
      obtain ⟨a6, g6, h⟩ := ih h
      obtain ⟨a7, g7, h⟩ := ih h
      simp only [List.drop_drop] at h g1 g2 g3 g4 g5 g6 g7
      refine ⟨.mk a0 a1 a2 a3 a4 a5 a6 a7, fun i hi => ?_, ?_⟩
      · rw [nAt_s]
        have hp : 0 < 8 ^ k := Nat.pow_pos (by omega)
        rw [Nat.pow_succ] at hi
        have hd : i / 8 ^ k < 8 := Nat.div_lt_of_lt_mul hi
        have hm := Nat.div_add_mod i (8 ^ k)
        have hr : i % 8 ^ k < 8 ^ k := Nat.mod_lt _ hp
        have idx : ∀ (x : Nest k SV), (∀ j q : Nat, nAt (8 ^ k * q + j) k x = nAt j k x) := by
          have : ∀ (k' : Nat), k' ≤ k → ∀ (x : Nest k' SV) (j q : Nat), nAt (8 ^ k * q + j) k' x = nAt j k' x := by
            intro k'
            induction k' with
            | zero => intro _ x j q; rfl
            | succ k' ih' =>
              intro hk x j q
              rw [nAt_s, nAt_s, ih' (by omega)]
              have hdig : dig ((8 ^ k * q + j) / 8 ^ k') = dig (j / 8 ^ k') := by
                apply dig_mod
                have e : 8 ^ k = 8 ^ k' * (8 * 8 ^ (k - k' - 1)) := by
                  rw [← Nat.pow_succ', ← Nat.pow_add]; congr 1; omega
                rw [e, Nat.mul_assoc, Nat.mul_add_div (Nat.pow_pos (by omega)), Nat.mul_assoc, Nat.mul_add_mod]
              rw [hdig]
          exact this k (Nat.le_refl k)
        rw [← hm]
        generalize i / 8 ^ k = q at hd
        generalize i % 8 ^ k = j at hr
        have hq : (8 ^ k * q + j) / 8 ^ k = q := by rw [Nat.mul_add_div hp, Nat.div_eq_of_lt hr]; rfl
        rw [hq, idx]
        match q, hd with
        | 0, _ => rw [show dig 0 = .d0 from rfl]; show nAt j k a0 = _; rw [g0 j hr]; simp
        | 1, _ => rw [show dig 1 = .d1 from rfl]; show nAt j k a1 = _; rw [g1 j hr, List.getElem?_drop]; congr 2; omega
        | 2, _ => rw [show dig 2 = .d2 from rfl]; show nAt j k a2 = _; rw [g2 j hr, List.getElem?_drop]; congr 2; omega
        | 3, _ => rw [show dig 3 = .d3 from rfl]; show nAt j k a3 = _; rw [g3 j hr, List.getElem?_drop]; congr 2; omega
        | 4, _ => rw [show dig 4 = .d4 from rfl]; show nAt j k a4 = _; rw [g4 j hr, List.getElem?_drop]; congr 2; omega
        | 5, _ => rw [show dig 5 = .d5 from rfl]; show nAt j k a5 = _; rw [g5 j hr, List.getElem?_drop]; congr 2; omega
        | 6, _ => rw [show dig 6 = .d6 from rfl]; show nAt j k a6 = _; rw [g6 j hr, List.getElem?_drop]; congr 2; omega
        | 7, _ => rw [show dig 7 = .d7 from rfl]; show nAt j k a7 = _; rw [g7 j hr, List.getElem?_drop]; congr 2; omega
      · have e : 8 ^ (k + 1) = 8 ^ k + 8 ^ k + 8 ^ k + 8 ^ k + 8 ^ k + 8 ^ k + 8 ^ k + 8 ^ k := by rw [Nat.pow_succ]; omega
        rw [e]; exact h
def w4 (a : N8 SV) : C4 := .mk (.mk (.mk a (nRep .u 1) (nRep .u 1) (nRep .u 1) (nRep .u 1) (nRep .u 1) (nRep .u 1) (nRep .u 1)) (nRep .u 2) (nRep .u 2) (nRep .u 2) (nRep .u 2) (nRep .u 2) (nRep .u 2) (nRep .u 2)) (nRep .u 3) (nRep .u 3) (nRep .u 3) (nRep .u 3) (nRep .u 3) (nRep .u 3) (nRep .u 3)
theorem w4_at (a : N8 SV) (i : Nat) (h : i < 8) : nAt i 4 (w4 a) = nAt i 1 a := by
  rw [nAt_s, nAt_s, nAt_s]
  have e3 : i / 8 ^ 3 = 0 := Nat.div_eq_of_lt (by omega)
  have e2 : i / 8 ^ 2 = 0 := Nat.div_eq_of_lt (by omega)
  have e1 : i / 8 ^ 1 = 0 := Nat.div_eq_of_lt (by omega)
  rw [e3, e2, e1]; rfl
def cntK (l : List SV) : Nat → (Nat → Bool) → Bool := List.rec (motive := fun _ => Nat → (Nat → Bool) → Bool) (fun n K => K n) (fun _ _ ih n K => fN (Nat.succ n) fun n => ih n K) l
theorem cntK_eq : ∀ (l : List SV) (n : Nat) (K : Nat → Bool), cntK l n K = K (n + l.length) := by
  intro l
  induction l with
  | nil => intro n K; rfl
  | cons v l ih =>
    intro n K
    show cntK l (Nat.succ n) K = _
    rw [ih, List.length_cons, Nat.succ_add, Nat.add_succ]
/-- A block's cells, from a list. -/
def mkC (l : List SV) (K : Cs → Bool) : Bool := cntK l 0 fun n => Bool.rec (motive := fun _ => Bool) (Bool.rec (motive := fun _ => Bool) (K (.ls l)) (layN 4 l fun x _ => K (.a n x)) (Nat.ble n 4096)) (layN 1 l fun x _ => K (.a n (w4 x))) (Nat.ble n 8)
theorem toL_ext {n : Nat} {x : C4} {l : List SV} (hn : n = l.length) (h : ∀ i, i < n → nAt i 4 x = (l[i]?).getD .u) : (Cs.a n x).toL = l := by
  apply List.ext_getElem?
  intro j
  rw [toL_a_at]
  by_cases hj : j < n
  · rw [if_pos hj, h j hj, List.getElem?_eq_getElem (by omega)]; rfl
  · rw [if_neg hj, List.getElem?_eq_none (by omega)]
theorem mkC_true {l : List SV} {K : Cs → Bool} (h : mkC l K = true) : ∃ c, c.toL = l ∧ K c = true := by
  unfold mkC at h
  rw [cntK_eq, Nat.zero_add] at h
  cases h8 : Nat.ble l.length 8
  · rw [h8] at h
    cases h4 : Nat.ble l.length 4096
    · rw [h4] at h; exact ⟨.ls l, rfl, h⟩
    · rw [h4] at h
      obtain ⟨x, h1, h2⟩ := layN_true 4 h
      have := Nat.le_of_ble_eq_true h4
      exact ⟨_, toL_ext rfl fun i hi => h1 i (by have : (8 : Nat) ^ 4 = 4096 := rfl
                                                 omega), h2⟩
  · rw [h8] at h
    obtain ⟨x, h1, h2⟩ := layN_true 1 h
    have := Nat.le_of_ble_eq_true h8
    refine ⟨_, toL_ext rfl fun i hi => ?_, h2⟩
    rw [w4_at _ _ (by omega)]
    exact h1 i (by omega)
/-- Cells that all are one. -/
def repC (n : Nat) (v : SV) : Cs := Bool.rec (motive := fun _ => Cs) (.tr [(n, v)] .lf) (.a n (nRep v 4)) (Nat.ble n 4096)
theorem repC_toL (n : Nat) (v : SV) : (repC n v).toL = List.replicate n v := by
  unfold repC
  cases Nat.ble n 4096
  · have e : ∀ l : List SV, (l.mapIdx fun _ d => d) = l := fun l => by
      induction l with
      | nil => rfl
      | cons a l ih => rw [List.mapIdx_cons, ih]
    show ((baseL [(n, v)]).mapIdx fun i d => ((Tr.lf : Tr SV).get i).getD d) = _
    have : baseL [(n, v)] = List.replicate n v := by simp [baseL]
    rw [this]; exact e _
  · show (List.range n).map (fun i => nAt i 4 (nRep v 4)) = _
    simp only [nAt_rep, List.map_const', List.length_range]
/-- More cells behind those that are there. -/
def moreK (vs : List SV) : Nat → C4 → (Nat → C4 → Bool) → Bool := List.rec (motive := fun _ => Nat → C4 → (Nat → C4 → Bool) → Bool) (fun i x K => K i x) (fun v _ ih i x K => fN (Nat.succ i) fun j => Bx.rec (motive := fun _ => Bool) (fun g => g v x fun x => ih j x K) (cP j i)) vs
theorem moreK_true : ∀ {vs : List SV} {i : Nat} {x : C4} {K : Nat → C4 → Bool}, moreK vs i x K = true → ∃ n y, (Cs.a n y).toL = (Cs.a i x).toL ++ vs ∧ K n y = true := by
  intro vs
  induction vs with
  | nil => intro i x K h; exact ⟨i, x, by simp, h⟩
  | cons v vs ih =>
    intro i x K h
    have h : Bx.rec (motive := fun _ => Bool) (fun g => g v x fun x => moreK vs (Nat.succ i) x K) (cP (Nat.succ i) i) = true := h
    obtain ⟨h1, h2, h3⟩ := cP_true h
    obtain ⟨n, y, h4, h5⟩ := ih h3
    refine ⟨n, y, ?_, h5⟩
    rw [h4, toL_a_set h2 h1]
    have e : ((Cs.a (Nat.succ i) x).toL.set i v) = (Cs.a i x).toL ++ [v] := by
      apply List.ext_getElem?
      intro j
      rw [List.getElem?_set, toL_a_len, toL_a_at]
      by_cases hj : i = j
      · subst hj
        rw [if_pos rfl, if_pos (by omega), List.getElem?_append_right (by rw [toL_a_len]; omega), toL_a_len, Nat.sub_self]; rfl
      · rw [if_neg hj]
        by_cases hl : j < i
        · rw [List.getElem?_append_left (by rw [toL_a_len]; exact hl), toL_a_at, if_pos (by omega), if_pos hl]
        · rw [if_neg (by omega), List.getElem?_eq_none (by rw [List.length_append, toL_a_len, List.length_singleton]; omega)]
    rw [e, List.append_assoc]; rfl
/-! Memory is read and written -/
def hG (b : Nat) : Bx (HT → Option SOb) := Bool.rec (motive := fun _ => Bx (HT → Option SOb)) (.mk fun _ => none) (nG 5 b) (Nat.ble (Nat.succ b) 32767)
def obK (b : Nat) (t : HT) (K : Cs → TypeId → Bool → Bool) : Bool := Bx.rec (motive := fun _ => Bool) (fun g => Option.rec (motive := fun _ => Bool) false (fun o => SOb.rec (motive := fun _ => Bool) (fun c e r => K c e r) o) (g t)) (hG b)
theorem obK_true {b : Nat} {t : HT} {K : Cs → TypeId → Bool → Bool} (h : obK b t K = true) : ∃ c e r, (∀ ρ n, (instH ρ t n).get b = some ⟨c.toL.map (SV.inst ρ), e, r⟩) ∧ K c e r = true := by
  unfold obK hG at h
  cases hb : Nat.ble (Nat.succ b) 32767
  · rw [hb] at h; cases h
  · rw [hb, nG_eq] at h
    have h : Option.rec (motive := fun _ => Bool) false (fun o => SOb.rec (motive := fun _ => Bool) (fun c e r => K c e r) o) (hAt b t) = true := h
    cases ho : hAt b t with
    | none => rw [ho] at h; cases h
    | some o =>
      rw [ho] at h
      obtain ⟨c, e, r⟩ := o
      exact ⟨c, e, r, fun ρ n => by rw [get_instH (Nat.le_of_ble_eq_true hb), ho]; rfl, h⟩
theorem obK_at {b : Nat} {t : HT} {K : Cs → TypeId → Bool → Bool} (h : obK b t K = true) : ∃ c e r, b < 32767 ∧ hAt b t = some ⟨c, e, r⟩ ∧ K c e r = true := by
  unfold obK hG at h
  cases hb : Nat.ble (Nat.succ b) 32767
  · rw [hb] at h; cases h
  · rw [hb, nG_eq] at h
    have h : Option.rec (motive := fun _ => Bool) false (fun o => SOb.rec (motive := fun _ => Bool) (fun c e r => K c e r) o) (hAt b t) = true := h
    cases ho : hAt b t with
    | none => rw [ho] at h; cases h
    | some o =>
      rw [ho] at h
      obtain ⟨c, e, r⟩ := o
      exact ⟨c, e, r, Nat.le_of_ble_eq_true hb, rfl, h⟩
theorem full_congr {α : Type} : ∀ (d : Nat) (f g : Nat → Option α), (∀ j, j + 1 < 2 ^ d → f j = g j) → full d f = full d g := by
  intro d
  induction d with
  | zero => intro f g _; rfl
  | succ d ih =>
    intro f g hfg
    have hp : 0 < 2 ^ d := Nat.two_pow_pos d
    rw [Nat.pow_succ] at hfg
    simp only [full]
    rw [hfg 0 (by omega), ih _ _ fun j hj => hfg (2 * j + 1) (by omega), ih _ _ fun j hj => hfg (2 * j + 2) (by omega)]
def hP (b : Nat) : Bx (Option SOb → HT → (HT → Bool) → Bool) := Bool.rec (motive := fun _ => Bx (Option SOb → HT → (HT → Bool) → Bool)) (.mk fun _ _ _ => false) (nP 5 b) (Nat.ble (Nat.succ b) 32767)
def hpK (b : Nat) (o : Option SOb) (t : HT) (K : HT → Bool) : Bool := Bx.rec (motive := fun _ => Bool) (fun g => g o t K) (hP b)
theorem hpK_set {b : Nat} {o : Option SOb} {t : HT} {K : HT → Bool} (h : hpK b o t K = true) : b < 32767 ∧ K (nSet b o 5 t) = true := by
  unfold hpK hP at h
  cases hb : Nat.ble (Nat.succ b) 32767
  · rw [hb] at h; cases h
  · rw [hb, nP_eq] at h
    exact ⟨Nat.le_of_ble_eq_true hb, h⟩
theorem hpK_true {b : Nat} {o : SOb} {t : HT} {K : HT → Bool} (h : hpK b (some o) t K = true) : ∃ t', (∀ ρ n, instH ρ t' n = (instH ρ t n).put b (o.inst ρ)) ∧ K t' = true := by
  obtain ⟨h1, h2⟩ := hpK_set h
  exact ⟨_, fun ρ n => put_instH ρ h1 o, h2⟩
theorem hpK_kill {b : Nat} {t : HT} {K : HT → Bool} (h : hpK b none t K = true) : ∃ t', (∀ ρ n, instH ρ t' n = (instH ρ t n).kill b) ∧ K t' = true := by
  obtain ⟨h1, h2⟩ := hpK_set h
  exact ⟨_, fun ρ n => kill_instH ρ h1, h2⟩
abbrev KV := SV → HT → Nat → Bool
/-- A block more. -/
def pushK (ob : SOb) (v : SV) (t : HT) (n : Nat) (K : KV) : Bool := hpK n (some ob) t fun t => fN (Nat.succ n) fun n => K v t n
theorem pushK_true {ob : SOb} {v : SV} {t : HT} {n : Nat} {K : KV} (h : pushK ob v t n K = true) : ∃ t', (∀ ρ, instH ρ t' (n + 1) = (instH ρ t n).push (ob.inst ρ)) ∧ K v t' (n + 1) = true := by
  obtain ⟨h1, h2⟩ := hpK_set h
  exact ⟨_, fun ρ => push_instH ρ h1 ob, h2⟩
/-- Cells that a function tells. -/
def nTab (k : Nat) : (Nat → SV) → Nest k SV := Nat.rec (motive := fun k => (Nat → SV) → Nest k SV) (fun f => f 0) (fun k ih f => .mk (ih f) (ih fun j => f (8 ^ k + j)) (ih fun j => f (2 * 8 ^ k + j)) (ih fun j => f (3 * 8 ^ k + j)) (ih fun j => f (4 * 8 ^ k + j)) (ih fun j => f (5 * 8 ^ k + j)) (ih fun j => f (6 * 8 ^ k + j)) (ih fun j => f (7 * 8 ^ k + j))) k
theorem nTab_at : ∀ (k i : Nat) (f : Nat → SV), nAt i k (nTab k f) = f (i % 8 ^ k) := by
  intro k
  induction k with
  | zero => intro i f; rw [Nat.pow_zero, Nat.mod_one]; rfl
  | succ k ih =>
    intro i f
    rw [nAt_s, Nat.pow_succ, Nat.mod_mul]
    have hd : i / 8 ^ k % 8 < 8 := Nat.mod_lt _ (by omega)
    rw [show dig (i / 8 ^ k) = dig (i / 8 ^ k % 8) from dig_mod (by omega)]
    generalize i / 8 ^ k % 8 = q at hd
    match q, hd with
    | 0, _ => show nAt i k (nTab k _) = _; rw [ih]; rfl
    | 1, _ => show nAt i k (nTab k _) = _; rw [ih] <;> (congr 1; omega)
    | 2, _ => show nAt i k (nTab k _) = _; rw [ih] <;> (congr 1; omega)
    | 3, _ => show nAt i k (nTab k _) = _; rw [ih] <;> (congr 1; omega)
    | 4, _ => show nAt i k (nTab k _) = _; rw [ih] <;> (congr 1; omega)
    | 5, _ => show nAt i k (nTab k _) = _; rw [ih] <;> (congr 1; omega)
    | 6, _ => show nAt i k (nTab k _) = _; rw [ih] <;> (congr 1; omega)
    | 7, _ => show nAt i k (nTab k _) = _; rw [ih] <;> (congr 1; omega)
/-- A block's cells that stand in the text. -/
def tabC (l : List SV) : Cs := Bool.rec (motive := fun _ => Cs) (.ls l) (.a l.length (nTab 4 fun i => (l[i]?).getD .u)) (Nat.ble l.length 4096)
theorem tabC_toL (l : List SV) : (tabC l).toL = l := by
  unfold tabC
  cases h : Nat.ble l.length 4096
  · rfl
  · have := Nat.le_of_ble_eq_true h
    refine toL_ext rfl fun i hi => ?_
    rw [nTab_at, Nat.mod_eq_of_lt]
    have : (8 : Nat) ^ 4 = 4096 := rfl
    omega
end
end Go.Ev
