/- Walks by hand: code as a machine with a stack. It runs by itself (by the kernel, names in the data) up to where a fact is wanted. -/
import Derived.Test.YtahikechkggbfaaEvSf
namespace Go.Ev
open Go
set_option linter.unusedVariables false
set_option linter.unusedSimpArgs false
/-- What is left to be done behind a piece of code. -/
inductive Kf where
  | next (b : Code)
  | blk (id : Nat)
  | loop (a : Code)
  | inv (R : St → Prop)
  | call (n : Nat) (dst : Option Tmp) (tm : Tr Value) (ops : Array Oper) (l : List Oper) (rs : Array ResultVar)
/-- Where it stands. -/
inductive Pos where
  | code (c : Code)
  | ops (ops : Array Oper) (l : List Oper)
  | done (x : Xt)
structure Cf where
  n : Nat
  p : Pos
  K : List Kf
  s : St
section
variable (P : Program) (T : Tab)
def kont : Nat → List Kf → (Xt → St → Prop) → Xt → St → Prop
  | _, [], Q => Q
  | n, .next b :: K, Q => Xt.then (Aw P T n b (kont n K Q)) (kont n K Q)
  | n, .blk id :: K, Q => Xt.inBlock id (kont n K Q)
  | n, .loop a :: K, Q => Xt.then (Aw P T n (.loop a) (kont n K Q)) (kont n K Q)
  | n, .inv R :: K, Q => Xt.then R (kont n K Q)
  | _, .call m dst tm ops l rs :: K, Q => bodyQ T rs fun v H => APut m dst v tm H (AOps P T m ops l (kont m K Q .normal))
/-- What is to be shown of a state of the machine. -/
def Den (c : Cf) (Q : Xt → St → Prop) : Prop :=
  match c.p with
  | .code a => Aw P T c.n a (kont P T c.n c.K Q) c.s
  | .ops ops l => AOps P T c.n ops l (kont P T c.n c.K Q .normal) c.s
  | .done x => kont P T c.n c.K Q x c.s
def sCode (n : Nat) (K : List Kf) (s : St) : Code → Option Cf
  | .skip => some ⟨n, .done .normal, K, s⟩
  | .label _ => some ⟨n, .done .normal, K, s⟩
  | .ret => some ⟨n, .done .ret, K, s⟩
  | .exit i => some ⟨n, .done (.exit i), K, s⟩
  | .seq a b => some ⟨n, .code a, .next b :: K, s⟩
  | .block i a => some ⟨n, .code a, .blk i :: K, s⟩
  | .scope a => some ⟨n, .code a, K, s⟩
  | .loop a => some ⟨n, .code a, .loop a :: K, s⟩
  | .cond x a b => match aeval s.tm x with
    | some (.bool t) => some ⟨n, .code (bif t then a else b), K, s⟩
    | _ => none
  | .region _ ops draw => bif draw && !(loose T ops).isEmpty then none else some ⟨n, .ops ops ops.toList, K, s⟩
  | _ => none
def sPut (n : Nat) (K : List Kf) (ops : Array Oper) (l : List Oper) (dst : Option Tmp) (tm : Tr Value) (v : Value) (H : Heap) : Option Cf :=
  match dput n tm dst v with
  | some tm' => some ⟨n, .ops ops l, K, ⟨tm', H⟩⟩
  | none => none
def sEnter (n : Nat) (K : List Kf) (ops : Array Oper) (l : List Oper) (dst : Option Tmp) (tm : Tr Value) (f : FuncId) (args : Array Value) (H : Heap) : Option Cf :=
  match T.orc f args.toList with
  | some v => sPut n K ops l dst tm v H
  | none => match T.fn f with
    | some fn => match fn.body with
      | some b => some ⟨args.size + (fn.ntmps - args.size), .code b, .call n dst tm ops l fn.results :: K, ⟨initTm 0 args, H⟩⟩
      | none => none
    | none => none
def sOp (n : Nat) (K : List Kf) (s : St) (ops : Array Oper) (o : Oper) (l : List Oper) : Option Cf :=
  bif awanted ops s.tm o then
    match aop P T s.tm o s.H with
    | some (.val v, H) => sPut n K ops l o.dst s.tm v H
    | some (.skip, H) => sPut n K ops l o.dst s.tm undef H
    | some (.enter f args, H) => sEnter T n K ops l o.dst s.tm f args H
    | none => none
  else sPut n K ops l o.dst s.tm undef s.H
def sDone (n : Nat) (s : St) (x : Xt) : List Kf → Option Cf
  | [] => none
  | .next b :: K => match x with
    | .normal => some ⟨n, .code b, K, s⟩
    | _ => some ⟨n, .done x, K, s⟩
  | .loop a :: K => match x with
    | .normal => some ⟨n, .code (.loop a), K, s⟩
    | _ => some ⟨n, .done x, K, s⟩
  | .inv _ :: K => match x with
    | .normal => none
    | _ => some ⟨n, .done x, K, s⟩
  | .blk id :: K => match x with
    | .exit i => bif i.beq id then some ⟨n, .done .normal, K, s⟩ else some ⟨n, .done x, K, s⟩
    | _ => some ⟨n, .done x, K, s⟩
  | .call m dst tm ops l rs :: K => match x with
    | .exit _ => none
    | _ => match aresults T s.tm s.H rs with
      | some v => sPut m K ops l dst tm v s.H
      | none => none
def stepF (c : Cf) : Option Cf :=
  match c.p with
  | .code a => sCode T c.n c.K c.s a
  | .ops _ [] => some ⟨c.n, .done .normal, c.K, c.s⟩
  | .ops ops (o :: l) => sOp P T c.n c.K c.s ops o l
  | .done x => sDone T c.n c.s x c.K
def go : Nat → Cf → Cf
  | 0, c => c
  | k + 1, c => match stepF P T c with
    | some c' => go k c'
    | none => c
end
section
variable {P : Program} {T : Tab} {Q : Xt → St → Prop} {c c' : Cf}
theorem sPut_spec {n : Nat} {K : List Kf} {ops : Array Oper} {l : List Oper} {dst : Option Tmp} {tm : Tr Value} {v : Value} {H : Heap} (h : sPut n K ops l dst tm v H = some c') (hd : Den P T c' Q) :
    APut n dst v tm H (AOps P T n ops l (kont P T n K Q .normal)) := by
  unfold sPut at h
  unfold APut
  split at h
  · rename_i tm' e
    cases h
    rw [e]
    exact hd
  · cases h
theorem stepF_sound (h : stepF P T c = some c') (hd : Den P T c' Q) : Den P T c Q := by
  obtain ⟨n, p, K, s⟩ := c
  cases p with
  | code a =>
    show Aw P T n a (kont P T n K Q) s
    replace h : sCode T n K s a = some c' := h
    unfold sCode at h
    split at h
    · cases h; exact aw_skip hd
    · cases h; exact aw_label hd
    · cases h; exact aw_ret hd
    · cases h; exact aw_exit hd
    · cases h; exact aw_seq hd
    · cases h; exact aw_block hd
    · cases h; exact aw_scope hd
    · cases h; exact aw_loop_once hd
    · rename_i x a b
      split at h
      · rename_i t e
        cases h
        exact aw_cond e hd
      · cases h
    · rename_i i ops draw
      cases draw
      · simp only [Bool.false_and, cond_false] at h
        cases h
        exact aw_reg hd
      · cases hl : loose T ops with
        | nil =>
          simp only [hl, List.isEmpty_nil, Bool.not_true, Bool.and_false, cond_false] at h
          cases h
          exact aw_draw0w hl hd
        | cons a r =>
          simp [hl] at h
    · cases h
  | ops ops l =>
    cases l with
    | nil =>
      replace h : some (⟨n, .done .normal, K, s⟩ : Cf) = some c' := h
      cases h
      exact aops_nil hd
    | cons o l =>
      replace h : sOp P T n K s ops o l = some c' := h
      show AOps P T n ops (o :: l) (kont P T n K Q .normal) s
      unfold sOp at h
      refine aops_cons ?_
      unfold AStep
      cases hw : awanted ops s.tm o
      · rw [hw] at h
        exact sPut_spec h hd
      · rw [hw] at h
        simp only [cond_true] at h ⊢
        split at h
        · rename_i v H e
          rw [e]; exact sPut_spec h hd
        · rename_i H e
          rw [e]; exact sPut_spec h hd
        · rename_i f args H e
          rw [e]
          unfold sEnter at h
          split at h
          · rename_i v e1
            exact acall_orc e1 (sPut_spec h hd)
          · rename_i e1
            split at h
            · rename_i fn e2
              split at h
              · rename_i b e3
                cases h
                exact acall_of e1 e2 e3 hd
              · cases h
            · cases h
        · cases h
  | done x =>
    replace h : sDone T n s x K = some c' := h
    show kont P T n K Q x s
    cases K with
    | nil => cases h
    | cons k K =>
      cases k with
      | next b =>
        show Xt.then _ _ x s
        cases x with
        | normal => cases h; exact then_normal hd
        | ret => cases h; exact then_ret hd
        | exit i => cases h; exact then_exit hd
      | loop a =>
        show Xt.then _ _ x s
        cases x with
        | normal => cases h; exact then_normal hd
        | ret => cases h; exact then_ret hd
        | exit i => cases h; exact then_exit hd
      | inv R =>
        show Xt.then _ _ x s
        cases x with
        | normal => cases h
        | ret => cases h; exact then_ret hd
        | exit i => cases h; exact then_exit hd
      | blk id =>
        show Xt.inBlock _ _ x s
        cases x with
        | normal => cases h; exact blk_normal hd
        | ret => cases h; exact blk_ret hd
        | exit i =>
          replace h : (bif i.beq id then some (⟨n, .done .normal, K, s⟩ : Cf) else some ⟨n, .done (.exit i), K, s⟩) = some c' := h
          cases hb : i.beq id
          · rw [hb] at h; cases h; exact blk_miss hb hd
          · rw [hb] at h; cases h
            have := Nat.eq_of_beq_eq_true hb
            subst this
            exact blk_hit hd
      | call m dst tm ops l rs =>
        cases x with
        | exit i => cases h
        | normal =>
          replace h : (match aresults T s.tm s.H rs with | some v => sPut m K ops l dst tm v s.H | none => none) = some c' := h
          split at h
          · rename_i v e; exact ⟨v, e, sPut_spec h hd⟩
          · cases h
        | ret =>
          replace h : (match aresults T s.tm s.H rs with | some v => sPut m K ops l dst tm v s.H | none => none) = some c' := h
          split at h
          · rename_i v e; exact ⟨v, e, sPut_spec h hd⟩
          · cases h
/-- The machine runs on by itself. -/
theorem cf_go (k : Nat) (h : Den P T (go P T k c) Q) : Den P T c Q := by
  induction k generalizing c with
  | zero => exact h
  | succ k ih =>
    cases e : stepF P T c with
    | none => simp only [go, e] at h; exact h
    | some c' => simp only [go, e] at h; exact stepF_sound e (ih h)
/-! A step by a fact -/
def opsC (c : Cf) : Array Oper := match c.p with | .ops o _ => o | _ => #[]
def opC (c : Cf) : Oper := match c.p with | .ops _ (o :: _) => o | _ => default
def restC (c : Cf) : List Oper := match c.p with | .ops _ (_ :: l) => l | _ => []
def atOp (c : Cf) : Bool := match c.p with | .ops _ (_ :: _) => true | _ => false
/-- At an operation that is wanted, and puts into a slot. -/
def okOp (c : Cf) (t : Nat) : Bool := atOp c && (awanted (opsC c) c.s.tm (opC c) && (match (opC c).dst with | some d => d.beq t && d.blt c.n | none => false))
/-- At an operation that is wanted, and puts nowhere. -/
def okNo (c : Cf) : Bool := atOp c && (awanted (opsC c) c.s.tm (opC c) && (match (opC c).dst with | some _ => false | none => true))
def Cf.put (c : Cf) (t : Nat) (v : Value) (H : Heap) : Cf := ⟨c.n, .ops (opsC c) (restC c), c.K, ⟨c.s.tm.put t (some v), H⟩⟩
def Cf.skp (c : Cf) (H : Heap) : Cf := ⟨c.n, .ops (opsC c) (restC c), c.K, ⟨c.s.tm, H⟩⟩
def Cf.see (c : Cf) (t : Nat) (v : Value) : Cf := ⟨c.n, c.p, c.K, ⟨c.s.tm.put t (some v), c.s.H⟩⟩
theorem atOp_spec (h : atOp c = true) : c = ⟨c.n, .ops (opsC c) (opC c :: restC c), c.K, c.s⟩ := by
  obtain ⟨n, p, K, s⟩ := c
  cases p with
  | code a => cases h
  | done x => cases h
  | ops ops l => cases l with
    | nil => cases h
    | cons o l => rfl
theorem okOp_spec {t : Nat} (h : okOp c t = true) : atOp c = true ∧ awanted (opsC c) c.s.tm (opC c) = true ∧ ∀ v, dput c.n c.s.tm (opC c).dst v = some (c.s.tm.put t (some v)) := by
  unfold okOp at h
  simp only [Bool.and_eq_true] at h
  obtain ⟨h1, h2, h3⟩ := h
  refine ⟨h1, h2, fun v => ?_⟩
  split at h3
  · rename_i d e
    simp only [Bool.and_eq_true] at h3
    rw [e, Nat.eq_of_beq_eq_true h3.1]
    unfold dput
    have := h3.2
    rw [Nat.eq_of_beq_eq_true h3.1] at this
    simp only [this, cond_true]
  · cases h3
theorem okNo_spec (h : okNo c = true) : atOp c = true ∧ awanted (opsC c) c.s.tm (opC c) = true ∧ (opC c).dst = none := by
  unfold okNo at h
  simp only [Bool.and_eq_true] at h
  obtain ⟨h1, h2, h3⟩ := h
  refine ⟨h1, h2, ?_⟩
  split at h3
  · cases h3
  · rename_i e; exact e
theorem den_ops {n : Nat} {ops : Array Oper} {l : List Oper} {K : List Kf} {s : St} : Den P T ⟨n, .ops ops l, K, s⟩ Q = AOps P T n ops l (kont P T n K Q .normal) s := rfl
theorem cf_val (t : Nat) (v : Value) (H' : Heap) (ho : okOp c t = true) (ha : aop P T c.s.tm (opC c) c.s.H = some (.val v, H')) (hk : Den P T (c.put t v H') Q) : Den P T c Q := by
  obtain ⟨h1, h2, h3⟩ := okOp_spec ho
  rw [atOp_spec h1, den_ops]
  exact aops_res h2 ha (ares_val (h3 v) hk)
theorem cf_skip (H' : Heap) (ho : okNo c = true) (ha : aop P T c.s.tm (opC c) c.s.H = some (.skip, H')) (hk : Den P T (c.skp H') Q) : Den P T c Q := by
  obtain ⟨h1, h2, h3⟩ := okNo_spec ho
  rw [atOp_spec h1, den_ops]
  exact aops_res h2 ha (ares_skip (by rw [h3]; rfl) hk)
theorem cf_call (t : Nat) (f : FuncId) (args : Array Value) (H0 : Heap) {R : Value → Heap → Prop} (ho : okOp c t = true) (ha : aop P T c.s.tm (opC c) c.s.H = some (.enter f args, c.s.H)) (hH : c.s.H = H0) (hc : ACall P T f args H0 R)
    (hk : ∀ v H', R v H' → Den P T (c.put t v H') Q) : Den P T c Q := by
  obtain ⟨h1, h2, h3⟩ := okOp_spec ho
  rw [atOp_spec h1, den_ops]
  rw [← hH] at hc
  exact aops_res h2 ha (ares_call (hc.mono fun v H' h => aput_k (h3 v) (hk v H' h)))
/-- A call whose result is not kept. -/
theorem cf_call0 (f : FuncId) (args : Array Value) (H0 : Heap) {R : Value → Heap → Prop} (ho : okNo c = true) (ha : aop P T c.s.tm (opC c) c.s.H = some (.enter f args, c.s.H)) (hH : c.s.H = H0) (hc : ACall P T f args H0 R)
    (hk : ∀ v H', R v H' → Den P T (c.skp H') Q) : Den P T c Q := by
  obtain ⟨h1, h2, h3⟩ := okNo_spec ho
  rw [atOp_spec h1, den_ops]
  rw [← hH] at hc
  exact aops_res h2 ha (ares_call (hc.mono fun v H' h => aput_k (by rw [h3]; rfl) (hk v H' h)))
theorem cf_ask (t : Nat) (v : Value) (f : FuncId) (args : Array Value) (ho : okOp c t = true) (ha : aop P T c.s.tm (opC c) c.s.H = some (.enter f args, c.s.H)) (hv : T.orc f args.toList = some v) (hk : Den P T (c.put t v c.s.H) Q) : Den P T c Q :=
  cf_call t f args c.s.H ho ha rfl (acall_orc hv (R := fun v' H' => v' = v ∧ H' = c.s.H) ⟨rfl, rfl⟩) fun v' H' h => by rw [h.1, h.2]; exact hk
theorem cf_see (t : Nat) (v : Value) (h : c.s.tm.get t = some v) (hk : Den P T (c.see t v) Q) : Den P T c Q := by
  obtain ⟨n, p, K, s⟩ := c
  have := st_see t v h
  unfold Cf.see at hk
  rw [← this] at hk
  exact hk
/-! Loops, joins -/
theorem cf_loop (n : Nat) (a : Code) (K : List Kf) (hn : c.n = n) (hp : c.p = .code (.loop a)) (hK : c.K = K) (I : Nat → St → Prop) (m : Nat) (h0 : I m c.s)
    (round : ∀ m s, I m s → ∀ R : St → Prop, (∀ s', (∃ m', m' < m ∧ I m' s') → R s') → Den P T ⟨n, .code a, .inv R :: K, s⟩ Q) : Den P T c Q := by
  obtain ⟨n', p', K', s⟩ := c
  cases hn; cases hp; cases hK
  exact aw_loop I m h0 fun m s h => round m s h _ fun s' h => h
def invH (c : Cf) : Option (St → Prop) := match c.p with | .done .normal => (match c.K with | .inv R :: _ => some R | _ => none) | _ => none
theorem cf_inv (R : St → Prop) (h : invH c = some R) (hr : R c.s) : Den P T c Q := by
  obtain ⟨n, p, K, s⟩ := c
  unfold invH at h
  split at h
  · rename_i e
    split at h
    · rename_i R' K' e2
      cases h
      cases e; cases e2
      exact then_normal hr
    · cases h
  · cases h
theorem Xt.then_mono {R : St → Prop} {x : Xt} {s : St} (h : Xt.then R (fun _ _ => False) x s) : x = .normal ∧ R s := by
  unfold Xt.then at h
  cases x with
  | normal => exact ⟨rfl, h⟩
  | ret => exact h.elim
  | exit i => exact h.elim
/-- Two ways that meet again. -/
theorem cf_mid (n : Nat) (a : Code) (K : List Kf) (hn : c.n = n) (hp : c.p = .code a) (hK : c.K = K) (R : St → Prop) (h1 : ∀ R' : St → Prop, (∀ s', R s' → R' s') → Den P T ⟨n, .code a, [.inv R'], c.s⟩ (fun _ _ => False)) (h2 : ∀ s', R s' → Den P T ⟨n, .done .normal, K, s'⟩ Q) : Den P T c Q := by
  obtain ⟨n', p', K', s⟩ := c
  cases hn; cases hp; cases hK
  exact Aw.mono (h1 R fun _ h => h) fun x s' h => by
    obtain ⟨e, h'⟩ := Xt.then_mono (show Xt.then R (fun _ _ => False) x s' from h)
    subst e
    exact h2 s' h'
theorem cf_kn {n : Nat} {p : Pos} {K : List Kf} {s : St} (L : List (Nat × Value)) {H : Heap} (h : Kn s.tm L) (hH : s.H = H) (hq : ∀ tm, Den P T ⟨n, p, K, ⟨putAll tm L, H⟩⟩ Q) : Den P T ⟨n, p, K, s⟩ Q := by
  obtain ⟨tm, H'⟩ := s
  cases hH
  have := hq tm
  rwa [putAll_eq h] at this
/-- The state told anew: where it stands, its memory, what is known of its slots. -/
theorem cf_at (n : Nat) (p : Pos) (K : List Kf) (hn : c.n = n) (hp : c.p = p) (hK : c.K = K) (L : List (Nat × Value)) (H : Heap) (h : Kn c.s.tm L) (hH : c.s.H = H) (hq : ∀ tm, Den P T ⟨n, p, K, ⟨putAll tm L, H⟩⟩ Q) : Den P T c Q := by
  obtain ⟨n', p', K', s⟩ := c
  cases hn; cases hp; cases hK
  exact cf_kn L h hH hq
/-! Regions whose order is drawn -/
def opsD (c : Cf) : Array Oper := match c.p with | .code (.region _ ops _) => ops | _ => #[]
def atD (c : Cf) : Bool := match c.p with | .code (.region _ _ true) => true | _ => false
theorem atD_spec (h : atD c = true) : ∃ i, c = ⟨c.n, .code (.region i (opsD c) true), c.K, c.s⟩ := by
  obtain ⟨n, p, K, s⟩ := c
  unfold atD at h
  split at h
  · rename_i i ops e
    cases e
    exact ⟨i, rfl⟩
  · cases h
theorem cf_drawC (h : atD c = true) (hk : AOpsC P T c.n (opsD c) (opsD c).toList (fun s => Den P T ⟨c.n, .done .normal, c.K, s⟩ Q) c.s) : Den P T c Q := by
  obtain ⟨i, e⟩ := atD_spec h
  rw [e]
  exact aw_drawC hk
theorem cf_drawU (lo : Nat) (h : atD c = true) (hk : AOpsU P T lo c.n (opsD c) (opsD c).toList (fun s => Den P T ⟨c.n, .done .normal, c.K, s⟩ Q) c.s) : Den P T c Q := by
  obtain ⟨i, e⟩ := atD_spec h
  rw [e]
  exact aw_drawU lo hk
theorem cf_drawW (h : atD c = true) (hk : ATr P T c.n (opsD c) (opsD c).toList [] (fun r s => (loose T (opsD c)).all (steady T (opsD c) r) = true ∧ Den P T ⟨c.n, .done .normal, c.K, s⟩ Q) c.s) : Den P T c Q := by
  obtain ⟨i, e⟩ := atD_spec h
  rw [e]
  exact aw_drawW hk
/-! Beginning and end -/
theorem acall_cf {f : FuncId} {fn : Func} {b : Code} {args : Array Value} {H : Heap} {R : Value → Heap → Prop} (n : Nat) (tm : Tr Value) (ho : T.orc f args.toList = none) (hf : T.fn f = some fn) (hb : fn.body = some b) (hn : args.size + (fn.ntmps - args.size) = n) (ht : initTm 0 args = tm)
    (h : Den P T ⟨n, .code b, [], ⟨tm, H⟩⟩ (bodyQ T fn.results R)) : ACall P T f args H R := by
  subst hn ht
  exact acall_of ho hf hb h
def atEnd (c : Cf) : Bool := match c.p with
  | .done .normal => c.K.isEmpty
  | .done .ret => c.K.isEmpty
  | _ => false
theorem cf_end {rs : Array ResultVar} {R : Value → Heap → Prop} (v : Value) (H : Heap) (he : atEnd c = true) (hv : aresults T c.s.tm c.s.H rs = some v) (hH : c.s.H = H) (hr : R v H) : Den P T c (bodyQ T rs R) := by
  subst hH
  obtain ⟨n, p, K, s⟩ := c
  unfold atEnd at he
  split at he
  · rename_i e
    cases e
    cases K with
    | nil => exact ⟨v, hv, hr⟩
    | cons k K => cases he
  · rename_i e
    cases e
    cases K with
    | nil => exact ⟨v, hv, hr⟩
    | cons k K => cases he
  · cases he
end
attribute [irreducible] Den
end Go.Ev
