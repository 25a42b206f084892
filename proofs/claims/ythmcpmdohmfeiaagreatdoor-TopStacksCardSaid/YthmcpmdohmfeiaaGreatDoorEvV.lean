/- The evaluator by hand: what it must come to, piece by piece. -/
import Derived.Test.YthmcpmdohmfeiaaGreatDoorEvU
namespace Go.Ev
open Go
set_option linter.unusedVariables false
set_option linter.unusedSimpArgs false
theorem cond_first {α : Sort _} {c c' : Bool} {a b : α} (h : c = c') : cond c a b = cond c' a b := by rw [h]
/-! More fuel does no harm -/
section
variable {P : Program} {T : Tab}
def CallLe (c c' : FuncId → Array Value → Heap → Option (Value × Heap)) : Prop := ∀ f args H r, c f args H = some r → c' f args H = some r
variable {callf callf' : FuncId → Array Value → Heap → Option (Value × Heap)} (hc : CallLe callf callf') {n : Nat} {ops : Array Oper}
include hc
theorem step1_le {o : Oper} {s s' : St} (h : step1 P T n callf ops o s = some s') : step1 P T n callf' ops o s = some s' := by
  unfold step1 at h ⊢
  cases hw : awanted ops s.tm o
  · rw [hw] at h; exact h
  · rw [hw] at h
    simp only [cond_true] at h ⊢
    split at h
    · exact h
    · exact h
    · rename_i f args H1 ha
      split at h
      · rename_i v H2 hcc
        simp only [hc _ _ _ _ hcc]; exact h
      · cases h
    · cases h
theorem evOps_le : ∀ (l : List Oper) (s s' : St), evOps P T n callf ops l s = some s' → evOps P T n callf' ops l s = some s' := by
  intro l
  induction l with
  | nil => intro s s' h; exact h
  | cons o l ih =>
    intro s s' h
    simp only [evOps] at h ⊢
    split at h
    · rename_i s1 h1; simp only [step1_le hc h1]; exact ih _ _ h
    · cases h
theorem evTrace_le : ∀ (l : List Oper) (s : St) (r : List St), evTrace P T n callf ops l s = some r → evTrace P T n callf' ops l s = some r := by
  intro l
  induction l with
  | nil => intro s r h; exact h
  | cons o l ih =>
    intro s r h
    simp only [evTrace] at h ⊢
    split at h
    · rename_i s1 h1
      simp only [step1_le hc h1]
      split at h
      · rename_i r' hr; simp only [ih _ _ hr]; exact h
      · cases h
    · cases h
theorem evRegion_le {draw : Bool} {s s' : St} (h : evRegion P T n callf ops draw s = some s') : evRegion P T n callf' ops draw s = some s' := by
  unfold evRegion at h ⊢
  cases draw
  · exact evOps_le hc _ _ _ h
  · simp only [cond_true] at h ⊢
    cases hps : loose T ops with
    | nil => rw [hps] at h; exact evOps_le hc _ _ _ h
    | cons p ps =>
      rw [hps] at h
      simp only at h ⊢
      split at h
      · rename_i l hl
        simp only [evTrace_le hc _ _ _ hl]; exact h
      · cases h
end
section
variable {P : Program} {T : Tab}
theorem evCode_region (k n id : Nat) (ops : Array Oper) (draw : Bool) (s : St) : evCode P T (k + 1) n (.region id ops draw) s = (match evRegion P T n (evCall P T k) ops draw s with | some s' => some (.normal, s') | none => none) := rfl
theorem evCode_le : ∀ (k k' n : Nat) (c : Code) (s : St) (r : Xt × St), k ≤ k' → evCode P T k n c s = some r → evCode P T k' n c s = some r := by
  intro k
  induction k with
  | zero => intro k' n c s r _ h; simp [evCode] at h
  | succ k ih =>
    intro k' n c s r hk h
    obtain ⟨j, rfl⟩ : ∃ j, k' = j + 1 := ⟨k' - 1, by omega⟩
    have hj : k ≤ j := by omega
    cases c with
    | region id ops draw =>
      rw [evCode_region] at h ⊢
      have hle : CallLe (evCall P T k) (evCall P T j) := by
        intro f args H r hr
        obtain ⟨v, H'⟩ := r
        unfold evCall at hr ⊢
        split at hr
        · exact hr
        · rcases evCall_inv hr with ⟨fn, c, x, s', h1, h2, h3, h4, h5, rfl⟩ | ⟨h1, h2, rfl⟩
          · rw [evCall_eq]
            simp only [h1, h2, ih _ _ _ _ _ hj h3]
            rcases h4 with rfl | rfl <;> simp only [h5]
          · rw [evCall_eq]
            simp only [h1, h2]
      split at h
      · rename_i s1 h1
        simp only [evRegion_le hle h1]; exact h
      · cases h
    | skip => exact h
    | label l => exact h
    | ret => exact h
    | exit i => exact h
    | seq a b =>
      simp only [evCode] at h ⊢
      split at h
      · rename_i s1 h1; simp only [ih _ _ _ _ _ hj h1]; exact ih _ _ _ _ _ hj h
      · rename_i hnot
        rw [ih _ _ _ _ _ hj h]
        split
        · rename_i s1 he; cases he; exact absurd h (hnot _)
        · rfl
    | cond c a b =>
      simp only [evCode] at h ⊢
      split at h
      · exact ih _ _ _ _ _ hj h
      · cases h
    | block id c =>
      simp only [evCode] at h ⊢
      split at h
      · rename_i i s1 h1; simp only [ih _ _ _ _ _ hj h1]; exact h
      · rename_i hnot
        rw [ih _ _ _ _ _ hj h]
        split
        · rename_i i s1 he; cases he; exact absurd h (hnot _ _)
        · rfl
    | loop c =>
      simp only [evCode] at h ⊢
      split at h
      · rename_i s1 h1; simp only [ih _ _ _ _ _ hj h1]; exact ih _ _ _ _ _ hj h
      · rename_i hnot
        rw [ih _ _ _ _ _ hj h]
        split
        · rename_i s1 he; cases he; exact absurd h (hnot _)
        · rfl
    | scope c =>
      simp only [evCode] at h ⊢
      exact ih _ _ _ _ _ hj h
    | _ => simp [evCode] at h
theorem evCall_le {k k' : Nat} (hk : k ≤ k') : CallLe (evCall P T k) (evCall P T k') := by
  intro f args H r hr
  obtain ⟨v, H'⟩ := r
  unfold evCall at hr ⊢
  split at hr
  · exact hr
  · rcases evCall_inv hr with ⟨fn, c, x, s', h1, h2, h3, h4, h5, rfl⟩ | ⟨h1, h2, rfl⟩
    · rw [evCall_eq]
      simp only [h1, h2, evCode_le _ _ _ _ _ _ hk h3]
      rcases h4 with rfl | rfl <;> simp only [h5]
    · rw [evCall_eq]
      simp only [h1, h2]
end
/-! What it must come to -/
section
variable (P : Program) (T : Tab)
def ACall (f : FuncId) (args : Array Value) (H : Heap) (R : Value → Heap → Prop) : Prop := ∃ k v H', evCall P T k f args H = some (v, H') ∧ R v H'
def Aw (n : Nat) (c : Code) (Q : Xt → St → Prop) (s : St) : Prop := ∃ k x s', evCode P T k n c s = some (x, s') ∧ Q x s'
def APut (n : Nat) (dst : Option Tmp) (v : Value) (tm : Tr Value) (H : Heap) (Q : St → Prop) : Prop := match dput n tm dst v with | some tm' => Q ⟨tm', H⟩ | none => False
def AStep (n : Nat) (ops : Array Oper) (o : Oper) (Q : St → Prop) (s : St) : Prop :=
  bif awanted ops s.tm o then
    match aop P T s.tm o s.H with
    | some (.val v, H) => APut n o.dst v s.tm H Q
    | some (.skip, H) => APut n o.dst undef s.tm H Q
    | some (.enter f args, H) => ACall P T f args H fun v H' => APut n o.dst v s.tm H' Q
    | none => False
  else APut n o.dst undef s.tm s.H Q
def AOps (n : Nat) (ops : Array Oper) : List Oper → (St → Prop) → St → Prop
  | [], Q, s => Q s
  | o :: l, Q, s => AStep P T n ops o (AOps n ops l Q) s
def Xt.then (K : St → Prop) (Q : Xt → St → Prop) : Xt → St → Prop
  | .normal, s => K s
  | x, s => Q x s
def Xt.inBlock (id : Nat) (Q : Xt → St → Prop) : Xt → St → Prop
  | .exit i, s => bif i.beq id then Q .normal s else Q (.exit i) s
  | x, s => Q x s
variable {P T} {n : Nat} {Q : Xt → St → Prop} {s : St} {a b c : Code} {ops : Array Oper}
theorem ACall.mono {f : FuncId} {args : Array Value} {H : Heap} {R R' : Value → Heap → Prop} (h : ACall P T f args H R) (hr : ∀ v H', R v H' → R' v H') : ACall P T f args H R' :=
  let ⟨k, v, H', h1, h2⟩ := h; ⟨k, v, H', h1, hr _ _ h2⟩
theorem Aw.mono {Q' : Xt → St → Prop} (h : Aw P T n c Q s) (hq : ∀ x s, Q x s → Q' x s) : Aw P T n c Q' s :=
  let ⟨k, x, s', h1, h2⟩ := h; ⟨k, x, s', h1, hq _ _ h2⟩
theorem APut.spec {m : Nat} {dst : Option Tmp} {v : Value} {tm : Tr Value} {H : Heap} {Q : St → Prop} (h : APut m dst v tm H Q) : ∃ s', fin m dst tm v H = some s' ∧ Q s' := by
  unfold APut at h
  unfold fin
  split at h
  · rename_i tm' htm; exact ⟨_, by simp only [htm], h⟩
  · exact h.elim
theorem AStep.spec {o : Oper} {Q : St → Prop} (h : AStep P T n ops o Q s) : ∃ k s', step1 P T n (evCall P T k) ops o s = some s' ∧ Q s' := by
  unfold AStep at h
  unfold step1
  cases hw : awanted ops s.tm o
  · rw [hw] at h
    obtain ⟨s', h1, h2⟩ := APut.spec h
    exact ⟨0, s', h1, h2⟩
  · rw [hw] at h
    simp only [cond_true] at h ⊢
    split at h
    · rename_i v H ha
      obtain ⟨s', h1, h2⟩ := APut.spec h
      exact ⟨0, s', by simp only [ha, h1], h2⟩
    · rename_i H ha
      obtain ⟨s', h1, h2⟩ := APut.spec h
      exact ⟨0, s', by simp only [ha, h1], h2⟩
    · rename_i f args H ha
      obtain ⟨k, v, H', h1, h2⟩ := h
      obtain ⟨s', h3, h4⟩ := APut.spec h2
      exact ⟨k, s', by simp only [ha, h1, h3], h4⟩
    · exact h.elim
theorem AOps.spec : ∀ (l : List Oper) (Q : St → Prop) (s : St), AOps P T n ops l Q s → ∃ k s', evOps P T n (evCall P T k) ops l s = some s' ∧ Q s' := by
  intro l
  induction l with
  | nil => intro Q s h; exact ⟨0, s, rfl, h⟩
  | cons o l ih =>
    intro Q s h
    obtain ⟨k, s1, h1, h2⟩ := AStep.spec (show AStep P T n ops o (AOps P T n ops l Q) s from h)
    obtain ⟨k', s', h3, h4⟩ := ih _ _ h2
    refine ⟨max k k', s', ?_, h4⟩
    simp only [evOps, step1_le (evCall_le (Nat.le_max_left k k')) h1]
    exact evOps_le (evCall_le (Nat.le_max_right k k')) _ _ _ h3
theorem aw_skip (h : Q .normal s) : Aw P T n .skip Q s := ⟨1, _, _, rfl, h⟩
theorem aw_label {l : Nat} (h : Q .normal s) : Aw P T n (.label l) Q s := ⟨1, _, _, rfl, h⟩
theorem aw_ret (h : Q .ret s) : Aw P T n .ret Q s := ⟨1, _, _, rfl, h⟩
theorem aw_exit {i : Nat} (h : Q (.exit i) s) : Aw P T n (.exit i) Q s := ⟨1, _, _, rfl, h⟩
theorem aw_seq (h : Aw P T n a (Xt.then (Aw P T n b Q) Q) s) : Aw P T n (.seq a b) Q s := by
  obtain ⟨k, x, s1, h1, h2⟩ := h
  cases x with
  | normal =>
    obtain ⟨k', x', s', h3, h4⟩ := h2
    refine ⟨max k k' + 1, x', s', ?_, h4⟩
    simp only [evCode, evCode_le _ _ _ _ _ _ (Nat.le_max_left k k') h1]
    exact evCode_le _ _ _ _ _ _ (Nat.le_max_right k k') h3
  | ret => exact ⟨k + 1, _, _, by simp only [evCode, h1], h2⟩
  | exit i => exact ⟨k + 1, _, _, by simp only [evCode, h1], h2⟩
theorem aw_seq_k (h : ∀ K : St → Prop, (∀ s, Aw P T n b Q s → K s) → Aw P T n a (Xt.then K Q) s) : Aw P T n (.seq a b) Q s := aw_seq (h _ fun _ h => h)
theorem aw_cond {x : Operand} {t : Bool} (hx : aeval s.tm x = some (.bool t)) (h : Aw P T n (bif t then a else b) Q s) : Aw P T n (.cond x a b) Q s := by
  obtain ⟨k, y, s', h1, h2⟩ := h
  exact ⟨k + 1, y, s', by simp only [evCode, hx, h1], h2⟩
theorem aw_cond_split {x : Operand} {t : Bool} (hx : aeval s.tm x = some (.bool t)) (ht : t = true → Aw P T n a Q s) (hf : t = false → Aw P T n b Q s) : Aw P T n (.cond x a b) Q s := by
  refine aw_cond hx ?_
  cases t
  · exact hf rfl
  · exact ht rfl
theorem aw_block {id : Nat} (h : Aw P T n a (Xt.inBlock id Q) s) : Aw P T n (.block id a) Q s := by
  obtain ⟨k, x, s1, h1, h2⟩ := h
  cases x with
  | normal => exact ⟨k + 1, _, _, by simp only [evCode, h1], h2⟩
  | ret => exact ⟨k + 1, _, _, by simp only [evCode, h1], h2⟩
  | exit i =>
    simp only [Xt.inBlock] at h2
    cases hb : i.beq id
    · rw [hb] at h2; exact ⟨k + 1, _, _, by simp only [evCode, h1, hb, cond_false], h2⟩
    · rw [hb] at h2; exact ⟨k + 1, _, _, by simp only [evCode, h1, hb, cond_true], h2⟩
theorem aw_scope (h : Aw P T n a Q s) : Aw P T n (.scope a) Q s := by
  obtain ⟨k, x, s1, h1, h2⟩ := h
  exact ⟨k + 1, x, s1, by simp only [evCode, h1], h2⟩
theorem aw_loop_once (h : Aw P T n a (Xt.then (Aw P T n (.loop a) Q) Q) s) : Aw P T n (.loop a) Q s := by
  obtain ⟨k, x, s1, h1, h2⟩ := h
  cases x with
  | normal =>
    obtain ⟨k', x', s', h3, h4⟩ := h2
    refine ⟨max k k' + 1, x', s', ?_, h4⟩
    simp only [evCode, evCode_le _ _ _ _ _ _ (Nat.le_max_left k k') h1]
    exact evCode_le _ _ _ _ _ _ (Nat.le_max_right k k') h3
  | ret => exact ⟨k + 1, _, _, by simp only [evCode, h1], h2⟩
  | exit i => exact ⟨k + 1, _, _, by simp only [evCode, h1], h2⟩
theorem aw_loop (I : Nat → St → Prop) (m : Nat) (h0 : I m s) (round : ∀ m s, I m s → Aw P T n a (Xt.then (fun s' => ∃ m', m' < m ∧ I m' s') Q) s) : Aw P T n (.loop a) Q s := by
  induction m using Nat.strongRecOn generalizing s with
  | _ m ih =>
    refine aw_loop_once ((round m s h0).mono fun x s1 hx => ?_)
    cases x with
    | normal => obtain ⟨m', h1, h2⟩ := hx; exact ih m' h1 h2
    | ret => exact hx
    | exit i => exact hx
theorem aw_region {id : Nat} (h : AOps P T n ops ops.toList (Q .normal) s) : Aw P T n (.region id ops false) Q s := by
  obtain ⟨k, s', h1, h2⟩ := AOps.spec _ _ _ h
  exact ⟨k + 1, .normal, s', by rw [evCode_region]; simp only [evRegion, cond_false, h1], h2⟩
theorem aw_region_lit {id : Nat} {l : List Oper} (h : AOps P T n l.toArray l (Q .normal) s) : Aw P T n (.region id l.toArray false) Q s := aw_region (by simpa using h)
theorem aw_draw0 {id : Nat} {l : List Oper} (hl : loose T l.toArray = []) (h : AOps P T n l.toArray l (Q .normal) s) : Aw P T n (.region id l.toArray true) Q s := by
  obtain ⟨k, s', h1, h2⟩ := AOps.spec _ _ _ h
  exact ⟨k + 1, .normal, s', by rw [evCode_region]; simp only [evRegion, cond_true, hl, h1], h2⟩
/-- What comes behind. -/
def Kt (P : Program) (T : Tab) (n : Nat) (b : Code) (Q : Xt → St → Prop) (s : St) : Prop := Aw P T n b Q s
theorem kt (h : Aw P T n b Q s) : Kt P T n b Q s := h
theorem aw_seq' (h : Aw P T n a (Xt.then (Kt P T n b Q) Q) s) : Aw P T n (.seq a b) Q s := aw_seq h
theorem aw_region_k {id : Nat} {l : List Oper} (h : ∀ K : St → Prop, (∀ s, Q .normal s → K s) → AOps P T n l.toArray l K s) : Aw P T n (.region id l.toArray false) Q s := aw_region_lit (h _ fun _ h => h)
theorem aw_draw0_k {id : Nat} {l : List Oper} (hl : loose T l.toArray = []) (h : ∀ K : St → Prop, (∀ s, Q .normal s → K s) → AOps P T n l.toArray l K s) : Aw P T n (.region id l.toArray true) Q s := aw_draw0 hl (h _ fun _ h => h)
theorem aops_nil {K : St → Prop} (h : K s) : AOps P T n ops [] K s := h
theorem aops_cons {K : St → Prop} {o : Oper} {l : List Oper} (h : AStep P T n ops o (AOps P T n ops l K) s) : AOps P T n ops (o :: l) K s := h
def ARes (P : Program) (T : Tab) (n : Nat) (dst : Option Tmp) (tm : Tr Value) (K : St → Prop) : Res × Heap → Prop
  | (.val v, H) => APut n dst v tm H K
  | (.skip, H) => APut n dst undef tm H K
  | (.enter f args, H) => ACall P T f args H fun v H' => APut n dst v tm H' K
theorem aops_res {K : St → Prop} {o : Oper} {l : List Oper} {r : Res × Heap} (hw : awanted ops s.tm o = true) (ha : aop P T s.tm o s.H = some r) (h : ARes P T n o.dst s.tm (AOps P T n ops l K) r) : AOps P T n ops (o :: l) K s := by
  refine aops_cons ?_
  unfold AStep
  rw [hw, ha]
  obtain ⟨x, H⟩ := r
  cases x <;> exact h
theorem aops_off {K : St → Prop} {o : Oper} {l : List Oper} {tm' : Tr Value} (hw : awanted ops s.tm o = false) (hd : dput n s.tm o.dst undef = some tm') (h : AOps P T n ops l K ⟨tm', s.H⟩) : AOps P T n ops (o :: l) K s := by
  refine aops_cons ?_
  unfold AStep
  rw [hw]
  simp only [cond_false]
  unfold APut
  rw [hd]
  exact h
theorem aput_k {K : St → Prop} {dst : Option Tmp} {v : Value} {tm tm' : Tr Value} {H : Heap} (hd : dput n tm dst v = some tm') (h : K ⟨tm', H⟩) : APut n dst v tm H K := by
  unfold APut
  rw [hd]
  exact h
theorem ares_val {K : St → Prop} {dst : Option Tmp} {v : Value} {tm tm' : Tr Value} {H : Heap} (hd : dput n tm dst v = some tm') (h : K ⟨tm', H⟩) : ARes P T n dst tm K (.val v, H) := aput_k hd h
theorem ares_skip {K : St → Prop} {dst : Option Tmp} {tm tm' : Tr Value} {H : Heap} (hd : dput n tm dst undef = some tm') (h : K ⟨tm', H⟩) : ARes P T n dst tm K (.skip, H) := aput_k hd h
theorem ares_call {K : St → Prop} {dst : Option Tmp} {tm : Tr Value} {H : Heap} {f : FuncId} {args : Array Value} (h : ACall P T f args H fun v H' => APut n dst v tm H' K) : ARes P T n dst tm K (.enter f args, H) := h
theorem then_normal {K : St → Prop} (h : K s) : Xt.then K Q .normal s := h
theorem then_ret {K : St → Prop} (h : Q .ret s) : Xt.then K Q .ret s := h
theorem then_exit {K : St → Prop} {i : Nat} (h : Q (.exit i) s) : Xt.then K Q (.exit i) s := h
theorem blk_normal {id : Nat} (h : Q .normal s) : Xt.inBlock id Q .normal s := h
theorem blk_ret {id : Nat} (h : Q .ret s) : Xt.inBlock id Q .ret s := h
theorem blk_hit {id : Nat} (h : Q .normal s) : Xt.inBlock id Q (.exit id) s := by
  show (bif id.beq id then Q .normal s else Q (.exit id) s)
  rw [Nat.beq_refl]; exact h
theorem blk_miss {id i : Nat} (hi : i.beq id = false) (h : Q (.exit i) s) : Xt.inBlock id Q (.exit i) s := by
  show (bif i.beq id then Q .normal s else Q (.exit i) s)
  rw [hi]; exact h
attribute [irreducible] Kt
/-- The states of a region, one by one. -/
def ATr (P : Program) (T : Tab) (n : Nat) (ops : Array Oper) : List Oper → List St → (List St → St → Prop) → St → Prop
  | [], acc, Q, s => Q (acc ++ [s]) s
  | o :: l, acc, Q, s => AStep P T n ops o (ATr P T n ops l (acc ++ [s]) Q) s
theorem ATr.spec : ∀ (l : List Oper) (acc : List St) (Q : List St → St → Prop) (s : St), ATr P T n ops l acc Q s → ∃ k r s', evTrace P T n (evCall P T k) ops l s = some r ∧ r.getLast? = some s' ∧ Q (acc ++ r) s' := by
  intro l
  induction l with
  | nil => intro acc Q s h; exact ⟨0, [s], s, rfl, rfl, h⟩
  | cons o l ih =>
    intro acc Q s h
    obtain ⟨k, s1, h1, h2⟩ := AStep.spec (show AStep P T n ops o (ATr P T n ops l (acc ++ [s]) Q) s from h)
    obtain ⟨k', r, s', h3, h4, h5⟩ := ih _ _ _ h2
    refine ⟨max k k', s :: r, s', ?_, ?_, by simpa using h5⟩
    · simp only [evTrace, step1_le (evCall_le (Nat.le_max_left k k')) h1, evTrace_le (evCall_le (Nat.le_max_right k k')) _ _ _ h3]
    · rw [List.getLast?_cons, h4]; rfl
theorem aw_draw {id : Nat} {l : List Oper} (h : ATr P T n l.toArray l [] (fun r s' => (loose T l.toArray).all (steady T l.toArray r) = true ∧ Q .normal s') s) : Aw P T n (.region id l.toArray true) Q s := by
  obtain ⟨k, r, s', h1, h2, h3, h4⟩ := ATr.spec _ _ _ _ h
  refine ⟨k + 1, .normal, s', ?_, h4⟩
  rw [evCode_region]
  simp only [evRegion, cond_true]
  cases hl : loose T l.toArray with
  | nil =>
    obtain ⟨_, _, _, s2, g1, g2⟩ := evTrace_spec _ _ _ h1
    rw [h2] at g1; cases g1
    simp only [g2]
  | cons p ps =>
    simp only [h1]
    rw [hl] at h3
    simp only [List.nil_append] at h3
    simp only [h3, cond_true, h2]
/-- A step that leaves memory as it is. -/
def isLoad : Op → Bool | .load .. => true | _ => false
def isConv : Op → Bool | .convert .. => true | _ => false
def Looks (T : Tab) (tm : Tr Value) (o : Oper) (H : Heap) : Prop := ∃ x u v, lookArg o.op = some x ∧ aeval tm x = some u ∧ alook T o.op u H = some v ∧ veq v v = true
def AStepC (P : Program) (T : Tab) (n : Nat) (ops : Array Oper) (o : Oper) (Q : St → Prop) (s : St) : Prop :=
  bif awanted ops s.tm o then
    match aop P T s.tm o s.H with
    | some (.val v, H) => H = s.H ∧ ((isLoad o.op = true → veq v v = true) ∧ (isConv o.op = true → cls T o.op = .look → Looks T s.tm o s.H)) ∧ APut n o.dst v s.tm s.H Q
    | some (.enter f args, H) => H = s.H ∧ (match T.orc f args.toList with | some v => APut n o.dst v s.tm s.H Q | none => False)
    | _ => False
  else APut n o.dst undef s.tm s.H Q
def AOpsC (P : Program) (T : Tab) (n : Nat) (ops : Array Oper) : List Oper → (St → Prop) → St → Prop
  | [], Q, s => Q s
  | o :: l, Q, s => AStepC P T n ops o (AOpsC P T n ops l Q) s
theorem aopsC_nil {P : Program} {T : Tab} {n : Nat} {ops : Array Oper} {s : St} {K : St → Prop} (h : K s) : AOpsC P T n ops [] K s := h
theorem aopsC_cons {P : Program} {T : Tab} {n : Nat} {ops : Array Oper} {s : St} {K : St → Prop} {o : Oper} {l : List Oper} (h : AStepC P T n ops o (AOpsC P T n ops l K) s) : AOpsC P T n ops (o :: l) K s := h
theorem aopsC_val {P : Program} {T : Tab} {n : Nat} {ops : Array Oper} {s : St} {K : St → Prop} {o : Oper} {l : List Oper} {v : Value} {tm' : Tr Value} (hw : awanted ops s.tm o = true) (ha : aop P T s.tm o s.H = some (.val v, s.H)) (hv : isLoad o.op = false ∨ veq v v = true)
    (hd : dput n s.tm o.dst v = some tm') (h : AOpsC P T n ops l K ⟨tm', s.H⟩) (hc : isConv o.op = false := by kernel_rfl) : AOpsC P T n ops (o :: l) K s := by
  refine aopsC_cons ?_
  unfold AStepC
  rw [hw, ha]
  refine ⟨rfl, ⟨fun e => hv.elim (fun e' => by rw [e'] at e; cases e) id, fun e => by rw [hc] at e; cases e⟩, ?_⟩
  unfold APut
  rw [hd]
  exact h
theorem aopsC_conv {P : Program} {T : Tab} {n : Nat} {ops : Array Oper} {s : St} {K : St → Prop} {o : Oper} {l : List Oper} {v : Value} {tm' : Tr Value} (hw : awanted ops s.tm o = true) (ha : aop P T s.tm o s.H = some (.val v, s.H)) (hv : isLoad o.op = false) (hlk : cls T o.op = .look → Looks T s.tm o s.H)
    (hd : dput n s.tm o.dst v = some tm') (h : AOpsC P T n ops l K ⟨tm', s.H⟩) : AOpsC P T n ops (o :: l) K s := by
  refine aopsC_cons ?_
  unfold AStepC
  rw [hw, ha]
  refine ⟨rfl, ⟨fun e => (by rw [hv] at e; cases e), fun _ => hlk⟩, ?_⟩
  unfold APut
  rw [hd]
  exact h
theorem aopsC_call {P : Program} {T : Tab} {n : Nat} {ops : Array Oper} {s : St} {K : St → Prop} {o : Oper} {l : List Oper} {v : Value} {tm' : Tr Value} {f : FuncId} {args : Array Value} (hw : awanted ops s.tm o = true) (ha : aop P T s.tm o s.H = some (.enter f args, s.H)) (ho : T.orc f args.toList = some v)
    (hd : dput n s.tm o.dst v = some tm') (h : AOpsC P T n ops l K ⟨tm', s.H⟩) : AOpsC P T n ops (o :: l) K s := by
  refine aopsC_cons ?_
  unfold AStepC
  rw [hw, ha]
  simp only [cond_true, ho]
  refine ⟨True.intro, ?_⟩
  unfold APut
  rw [hd]
  exact h
theorem aopsC_off {P : Program} {T : Tab} {n : Nat} {ops : Array Oper} {s : St} {K : St → Prop} {o : Oper} {l : List Oper} {tm' : Tr Value} (hw : awanted ops s.tm o = false) (hd : dput n s.tm o.dst undef = some tm') (h : AOpsC P T n ops l K ⟨tm', s.H⟩) : AOpsC P T n ops (o :: l) K s := by
  refine aopsC_cons ?_
  unfold AStepC
  rw [hw]
  simp only [cond_false]
  unfold APut
  rw [hd]
  exact h
theorem AStepC.spec {o : Oper} {Q : St → Prop} (h : AStepC P T n ops o Q s) : ∃ s', step1 P T n (evCall P T 0) ops o s = some s' ∧ s'.H = s.H ∧ Q s' ∧
    (awanted ops s.tm o = true → cls T o.op = .look → Looks T s.tm o s.H) := by
  unfold AStepC at h
  unfold step1
  cases hw : awanted ops s.tm o
  · rw [hw] at h
    obtain ⟨s', h1, h2⟩ := APut.spec h
    have hH : s'.H = s.H := by unfold fin at h1; split at h1 <;> cases h1; rfl
    exact ⟨s', h1, hH, h2, fun e => by cases e⟩
  · rw [hw] at h
    simp only [cond_true] at h ⊢
    split at h
    · rename_i v H ha
      obtain ⟨rfl, h0, h⟩ := h
      obtain ⟨s', h1, h2⟩ := APut.spec h
      have hH : s'.H = s.H := by unfold fin at h1; split at h1 <;> cases h1; rfl
      refine ⟨s', by simp only [ha, h1], hH, h2, fun _ hlk => ?_⟩
      rcases look_op hlk with ⟨t, x, hop⟩ | ⟨sd, dd, x, hop⟩
      · have hv := h0.1 (by rw [hop]; rfl)
        unfold aop at ha
        simp only [hop] at ha
        split at ha
        · rename_i u hu
          unfold val at ha
          split at ha
          · rename_i v0 hv0
            cases ha
            exact ⟨x, u, _, by rw [hop]; rfl, hu, by rw [hop]; exact hv0, hv⟩
          · cases ha
        · cases ha
      · exact h0.2 (by rw [hop]; rfl) hlk
    · rename_i f args H ha
      obtain ⟨rfl, h⟩ := h
      split at h
      · rename_i v hv
        obtain ⟨s', h1, h2⟩ := APut.spec h
        have hH : s'.H = s.H := by unfold fin at h1; split at h1 <;> cases h1; rfl
        refine ⟨s', by simp only [ha, evCall, hv, h1], hH, h2, fun _ hlk => ?_⟩
        rw [enter_act ha] at hlk
        cases hlk
      · exact h.elim
    · exact h.elim
theorem AOpsC.spec : ∀ (l : List Oper) (Q : St → Prop) (s : St), AOpsC P T n ops l Q s → ∃ r s', evTrace P T n (evCall P T 0) ops l s = some r ∧ r.getLast? = some s' ∧ Q s' ∧ (∀ x ∈ r, x.H = s.H) ∧
    (∀ (k : Nat) (o : Oper) (s1 : St), l[k]? = some o → r[k]? = some s1 → awanted ops s1.tm o = true → cls T o.op = .look → Looks T s1.tm o s1.H) := by
  intro l
  induction l with
  | nil => intro Q s h; exact ⟨[s], s, rfl, rfl, h, fun x hx => by simp at hx; rw [hx], fun k o s1 hk => by simp at hk⟩
  | cons o l ih =>
    intro Q s h
    obtain ⟨s1, h1, h2, h3, h4⟩ := AStepC.spec (show AStepC P T n ops o (AOpsC P T n ops l Q) s from h)
    obtain ⟨r, s', g1, g2, g3, g4, g5⟩ := ih _ _ h3
    refine ⟨s :: r, s', by simp only [evTrace, h1, g1], by rw [List.getLast?_cons, g2]; rfl, g3, fun x hx => ?_, fun k o' s2 hk hs => ?_⟩
    · rcases List.mem_cons.1 hx with rfl | hx
      · rfl
      · rw [g4 x hx, h2]
    · cases k with
      | zero =>
        simp at hk hs
        subst hk hs
        exact h4
      | succ k => exact g5 k o' s2 (by simpa using hk) (by simpa using hs)
theorem aw_drawC_k {id : Nat} {l : List Oper} (h : ∀ K : St → Prop, (∀ s, Q .normal s → K s) → AOpsC P T n l.toArray l K s) : Aw P T n (.region id l.toArray true) Q s := by
  obtain ⟨r, s', h1, h2, h3, h4, h5⟩ := AOpsC.spec _ _ _ (h _ fun _ h => h)
  refine ⟨1, .normal, s', ?_, h3⟩
  rw [evCode_region]
  obtain ⟨g1, g2, g3, s2, g4, g5⟩ := evTrace_spec _ _ _ h1
  rw [h2] at g4; cases g4
  have hst : (loose T l.toArray).all (steady T l.toArray r) = true := by
    rw [List.all_eq_true]
    intro p hp
    unfold steady
    obtain ⟨i, j⟩ := p
    have hij : i < l.length ∧ j < l.length := by
      unfold loose at hp
      rw [List.mem_flatMap] at hp
      obtain ⟨i', hi', hp⟩ := hp
      obtain ⟨j', hj', hp⟩ := List.mem_filterMap.1 hp
      have : i = i' ∧ j = j' := by
        split at hp
        · revert hp; generalize i'.blt j' = b1; intro hp
          cases b1 <;> simp only [cond_false, cond_true] at hp
          · revert hp; generalize Nat.testBit _ _ = b2; intro hp; cases b2 <;> simp only [cond_false, cond_true] at hp <;> cases hp; exact ⟨rfl, rfl⟩
          · revert hp; generalize Nat.testBit _ _ = b2; intro hp; cases b2 <;> simp only [cond_false, cond_true] at hp <;> cases hp; exact ⟨rfl, rfl⟩
        · cases hp
      obtain ⟨rfl, rfl⟩ := this
      simp at hi' hj'
      exact ⟨hi', hj'⟩
    have e1 : r[i]? = some (r[i]'(by omega)) := List.getElem?_eq_getElem _
    have e2 : l.toArray[i]? = some l[i] := by simp [hij.1]
    have e3 : r[j]? = some (r[j]'(by omega)) := List.getElem?_eq_getElem _
    have e4 : r[j + 1]? = some (r[j + 1]'(by omega)) := List.getElem?_eq_getElem _
    have m1 := h4 _ (List.getElem_mem (by omega : i < r.length))
    have m2 := h4 _ (List.getElem_mem (by omega : j < r.length))
    have m3 := h4 _ (List.getElem_mem (by omega : j + 1 < r.length))
    simp only [e1, e2, e3, e4]
    cases hw : awanted l.toArray (r[i]'(by omega)).tm l[i]
    · rfl
    · simp only [cond_true]
      have hs1 := g3 i l[i] _ (by simp [hij.1]) e1
      obtain ⟨s3, _, hs3⟩ := hs1
      have hlook : cls T (l[i]).op = .look := by
        unfold loose at hp
        rw [List.mem_flatMap] at hp
        obtain ⟨i', hi', hp⟩ := hp
        obtain ⟨j', hj', hp⟩ := List.mem_filterMap.1 hp
        split at hp
        · rename_i c1 c2
          have : i = i' := by
            revert hp; generalize i'.blt j' = b1; intro hp
            cases b1 <;> simp only [cond_false, cond_true] at hp
            · revert hp; generalize Nat.testBit _ _ = b2; intro hp; cases b2 <;> simp only [cond_false, cond_true] at hp <;> cases hp; rfl
            · revert hp; generalize Nat.testBit _ _ = b2; intro hp; cases b2 <;> simp only [cond_false, cond_true] at hp <;> cases hp; rfl
          subst this
          rw [e2] at c1
          simp only [Option.map_some, Option.some.injEq] at c1
          exact c1
        · cases hp
      obtain ⟨x, u, v, k1, k2, k3, k4⟩ := h5 i l[i] _ (by simp [hij.1]) e1 hw hlook
      have hl1 := k3
      rw [m1] at k3
      simp only [k1, k2, hl1, m2, m3, k3, k4, Bool.and_self]
  simp only [evRegion, cond_true]
  cases hl : loose T l.toArray with
  | nil => simp only [g5]
  | cons p ps =>
    rw [hl] at hst
    simp only [h1, hst, cond_true, h2]
/-- A call, by its body. -/
def bodyQ (T : Tab) (rs : Array ResultVar) (R : Value → Heap → Prop) : Xt → St → Prop
  | .normal, s => ∃ v, aresults T s.tm s.H rs = some v ∧ R v s.H
  | .ret, s => ∃ v, aresults T s.tm s.H rs = some v ∧ R v s.H
  | .exit _, _ => False
theorem acall_orc {f : FuncId} {args : Array Value} {H : Heap} {R : Value → Heap → Prop} {v : Value} (h : T.orc f args.toList = some v) (hr : R v H) : ACall P T f args H R :=
  ⟨0, v, H, by unfold evCall; simp only [h], hr⟩
theorem bodyQ_ret {rs : Array ResultVar} {R : Value → Heap → Prop} {s : St} (h : ∃ v, aresults T s.tm s.H rs = some v ∧ R v s.H) : bodyQ T rs R .ret s := h
theorem bodyQ_normal {rs : Array ResultVar} {R : Value → Heap → Prop} {s : St} (h : ∃ v, aresults T s.tm s.H rs = some v ∧ R v s.H) : bodyQ T rs R .normal s := h
theorem acall_mor {f : FuncId} {args : Array Value} {H : Heap} {R : Value → Heap → Prop} {v : Value} (ho : T.orc f args.toList = none) (hf : T.fn f = none) (h : T.mor f args.toList H = some v) (hr : R v H) : ACall P T f args H R := by
  unfold ACall
  exact ⟨0, v, H, by unfold evCall; simp only [ho]; rw [evCall_eq]; simp only [hf, h], hr⟩
theorem acall_of {f : FuncId} {fn : Func} {c : Code} {args : Array Value} {H : Heap} {R : Value → Heap → Prop} (ho : T.orc f args.toList = none) (hf : T.fn f = some fn) (hb : fn.body = some c)
    (h : Aw P T (args.size + (fn.ntmps - args.size)) c (bodyQ T fn.results R) ⟨initTm 0 args, H⟩) : ACall P T f args H R := by
  obtain ⟨k, x, s', h1, h2⟩ := h
  cases x with
  | normal =>
    obtain ⟨v, h3, h4⟩ := h2
    exact ⟨k, v, _, by unfold evCall; simp only [ho]; rw [evCall_eq]; simp only [hf, hb, h1, h3], h4⟩
  | ret =>
    obtain ⟨v, h3, h4⟩ := h2
    exact ⟨k, v, _, by unfold evCall; simp only [ho]; rw [evCall_eq]; simp only [hf, hb, h1, h3], h4⟩
  | exit i => exact h2.elim
theorem acall_of' {f : FuncId} {fn : Func} {c : Code} {args : Array Value} {H : Heap} {R : Value → Heap → Prop} (m : Nat) (tm : Tr Value) (ho : T.orc f args.toList = none) (hf : T.fn f = some fn) (hb : fn.body = some c) (hm : args.size + (fn.ntmps - args.size) = m) (ht : initTm 0 args = tm)
    (h : Aw P T m c (bodyQ T fn.results R) ⟨tm, H⟩) : ACall P T f args H R := by
  subst hm ht
  exact acall_of ho hf hb h
end
attribute [irreducible] Xt.then Xt.inBlock
/-- **From here to the model.** -/
theorem ACall.calls [Bs] {P : Program} {T : Tab} (hP : ProgOk P T) {f : FuncId} {args : Array Value} {H : Heap} {R : Value → Heap → Prop} (h : ACall P T f args H R) (hwf : HWf H) {m : Map} {w : World} {args' : Array Value}
    (hr : Rep P m H w) (hargs : VRs m args.toList args'.toList) : Calls P f args' w fun e w' => ∃ v H', R v H' ∧ CallPost P m H w v H' e w' := by
  obtain ⟨k, v, H', h1, h2⟩ := h
  exact (evCall_sound hP h1 hwf hr hargs).mono fun e w' he => ⟨v, H', h2, he⟩
attribute [irreducible] Aw AOps AOpsC ACall ARes APut
theorem codeOk_orc (T : Tab) (g : FuncId → List Value → Option Value) (c : Code) : codeOk { T with orc := g } c = codeOk T c := by
  induction c with
  | region id ops draw => rfl
  | seq a b iha ihb => simp only [codeOk, iha, ihb]
  | cond x a b iha ihb => simp only [codeOk, iha, ihb]
  | block id c ih => simp only [codeOk, ih]
  | loop c ih => simp only [codeOk, ih]
  | scope c ih => simp only [codeOk, ih]
  | _ => rfl
/-- Calls that are known besides. -/
theorem ProgOk.withOrc [Bs] {P : Program} {T : Tab} (h : ProgOk P T) (g : FuncId → List Value → Option Value)
    (hg : ∀ f args v, g f args = some v → closed v = true ∧ args.all closed = true ∧ ∀ w : World, OnBs w → Calls P f args.toArray w fun e w' => e = .returned v ∧ Quiet w w') : ProgOk P { T with orc := g } where
  tab := ⟨h.tab.under, h.tab.size, h.tab.bytes, h.tab.zero⟩
  fns := ⟨h.fns.fn, h.fns.has⟩
  code := fun f fn c hf hb => by rw [codeOk_orc]; exact h.code f fn c hf hb
  mixed := h.mixed
  orc := hg
  mor := h.mor
theorem codeOk_mor (T : Tab) (g : FuncId → Option Func) (k : FuncId → List Value → Heap → Option Value) (q : FuncId → Bool) (c : Code) : codeOk { T with fn := g, mor := k, has := q } c = codeOk T c := by
  induction c with
  | region id ops draw => rfl
  | seq a b iha ihb => simp only [codeOk, iha, ihb]
  | cond x a b iha ihb => simp only [codeOk, iha, ihb]
  | block id c ih => simp only [codeOk, ih]
  | loop c ih => simp only [codeOk, ih]
  | scope c ih => simp only [codeOk, ih]
  | _ => rfl
/-- A call is not walked: what it answers of what lies in memory is known. -/
theorem ProgOk.withMor [Bs] {P : Program} {T : Tab} (h : ProgOk P T) (f0 : FuncId) (hh : (T.fn f0).isSome = true) (sp : List Value → Heap → Option Value)
    (hs : ∀ (args : Array Value) H v, sp args.toList H = some v → closed v = true ∧ ∀ (m : Map) (w : World) (args' : Array Value), HWf H → Rep P m H w → VRs m args.toList args'.toList → Calls P f0 args' w fun e w' => e = .returned v ∧ Quiet w w') :
    ProgOk P { T with fn := fun f => bif Nat.beq f f0 then none else T.fn f, mor := fun f l H => bif Nat.beq f f0 then sp l H else T.mor f l H, has := fun f => bif Nat.beq f f0 then true else T.has f } where
  tab := ⟨h.tab.under, h.tab.size, h.tab.bytes, h.tab.zero⟩
  fns := ⟨(fun f fn hf => by
    have hf : (bif Nat.beq f f0 then none else T.fn f) = some fn := hf
    cases hb : Nat.beq f f0
    · rw [hb] at hf; exact h.fns.fn f fn hf
    · rw [hb] at hf; cases hf), (fun f hf => by
    have hf : (bif Nat.beq f f0 then true else T.has f) = true := hf
    cases hb : Nat.beq f f0
    · rw [hb] at hf; exact h.fns.has f hf
    · have he := Nat.eq_of_beq_eq_true hb
      subst he
      obtain ⟨fn, hfn⟩ := Option.isSome_iff_exists.1 hh
      exact ⟨fn, h.fns.fn f fn hfn⟩)⟩
  code := fun f fn c hf hb => by
    have hf : (bif Nat.beq f f0 then none else T.fn f) = some fn := hf
    rw [codeOk_mor]
    cases hb' : Nat.beq f f0
    · rw [hb'] at hf; exact h.code f fn c hf hb
    · rw [hb'] at hf; cases hf
  mixed := h.mixed
  orc := h.orc
  mor := fun f args H v hv => by
    have hv2 : (bif Nat.beq f f0 then sp args.toList H else T.mor f args.toList H) = some v := hv
    clear hv
    cases hb : Nat.beq f f0
    · rw [hb] at hv2; exact h.mor f args H v hv2
    · rw [hb] at hv2
      have he := Nat.eq_of_beq_eq_true hb
      subst he
      exact hs args H v hv2
theorem Quiet.of_below {w w' : World} (h : RowKit.Below w.heap.size w w') : Quiet w w' := ⟨h.os, h.tape, h.output, h.size, h.block⟩
theorem Quiet.refl (w : World) : Quiet w w := ⟨rfl, rfl, rfl, Nat.le_refl _, fun _ _ => rfl⟩
/-- Memory goes on: nothing that was there is another. -/
structure Ext (H H' : Heap) : Prop where
  n : H.n ≤ H'.n
  get : ∀ b, b < H.n → H'.get b = H.get b
theorem Ext.refl (H : Heap) : Ext H H := ⟨Nat.le_refl _, fun _ _ => rfl⟩
theorem Ext.trans {a b c : Heap} (h : Ext a b) (k : Ext b c) : Ext a c := ⟨Nat.le_trans h.n k.n, fun x hx => (k.get x (Nat.lt_of_lt_of_le hx h.n)).trans (h.get x hx)⟩
theorem Ext.push {a b : Heap} (h : Ext a b) (o : Ob) : Ext a (b.push o) := ⟨Nat.le_trans h.n (by simp [Heap.n_push]), fun x hx => by rw [Heap.get_push, if_neg (by have := h.n; omega)]; exact h.get x hx⟩
theorem Ext.put {a b : Heap} (h : Ext a b) {x : Nat} (hx : a.n ≤ x) (o : Ob) : Ext a (b.put x o) := ⟨h.n, fun y hy => by rw [Heap.get_put, if_neg (by omega)]; exact h.get y hy⟩
theorem Ext.kill {a b : Heap} (h : Ext a b) {x : Nat} (hx : a.n ≤ x) : Ext a (b.kill x) := ⟨h.n, fun y hy => by rw [Heap.get_kill, if_neg (by omega)]; exact h.get y hy⟩
/-- A call without arguments that answers true, run by the evaluator. -/
def isTrue : Option (Value × Heap) → Bool
  | some (.bool true, _) => true
  | _ => false
theorem true_calls [Bs] {P : Program} {T : Tab} (hP : ProgOk P T) {k : Nat} {f : FuncId} (h : isTrue (evCall P T k f #[] ⟨.lf, 0⟩) = true) (w : World) (hw : OnBs w) : Calls P f #[] w fun e w' => e = .returned (.bool true) ∧ Quiet w w' := by
  unfold isTrue at h
  split at h
  · rename_i H' he
    have hwf : HWf ⟨.lf, 0⟩ := fun b hb => by simp [Heap.get, Tr.get] at hb
    have hr : Rep P (fun _ => none) ⟨.lf, 0⟩ w := ⟨⟨fun b L hb => (by cases hb), fun b L o hb => (by cases hb), fun b1 b2 L1 L2 hb => (by cases hb)⟩, ⟨hw, fun b L hb => (by cases hb)⟩⟩
    refine (evCall_sound hP he hwf hr VRs.nil).mono fun e w' hp => ?_
    obtain ⟨v', m', rfl, hv, _, hf⟩ := hp
    rw [hv.plain_eq rfl]
    exact ⟨rfl, hf.os, hf.tape, hf.output, hf.size, fun c hc => hf.keep c hc (by rintro ⟨b, L, hb, _⟩; cases hb)⟩
  · cases h
/-! Numbers by decision -/
theorem blt_dec (a b : Nat) : a.blt b = decide (a < b) := by
  cases h : a.blt b
  · have : ¬ a < b := fun e => by rw [show a.blt b = true from (by simpa [Nat.blt_eq] using e)] at h; cases h
    simp [this]
  · have : a < b := by simpa [Nat.blt_eq] using h
    simp [this]
theorem ble_dec (a b : Nat) : a.ble b = decide (a ≤ b) := by
  cases h : a.ble b
  · have : ¬ a ≤ b := fun e => by rw [Nat.ble_eq_true_of_le e] at h; cases h
    simp [this]
  · have := Nat.le_of_ble_eq_true h
    simp [this]
theorem beq_dec (a b : Nat) : a.beq b = decide (a = b) := by
  cases h : a.beq b
  · have : ¬ a = b := fun e => by subst e; simp at h
    simp [this]
  · have := Nat.eq_of_beq_eq_true h
    simp [this]
end Go.Ev
