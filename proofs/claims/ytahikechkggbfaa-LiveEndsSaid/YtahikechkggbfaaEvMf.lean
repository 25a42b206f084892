/- Memory under other names: loops, joins, beginning and end. -/
import Derived.Test.YtahikechkggbfaaEvMe
namespace Go.Ev
open Go
set_option linter.unusedVariables false
set_option linter.unusedSimpArgs false
section
variable {P : Program} {T : Tab} {X : Cx} {Q : Xt → St → Prop} {c : Cf}
/-! What a call leaves, piece by piece -/
def Covs (f : Em) (k k1 h : Heap) : Nat → List (Option Ob) → Prop
  | _, [] => True
  | c, none :: l => Covs f k k1 h (c + 1) l
  | c, some o :: l => CovAt f k k1 h c o ∧ Covs f k k1 h (c + 1) l
theorem Covs.spec {f : Em} {k k1 h : Heap} : ∀ (l : List (Option Ob)) (c : Nat), Covs f k k1 h c l → ∀ (j : Nat) (o : Ob), l[j]? = some (some o) → CovAt f k k1 h (c + j) o := by
  intro l
  induction l with
  | nil => intro c _ j o q; simp at q
  | cons x l ih =>
    intro c hc j o q
    cases x with
    | none => cases j with
      | zero => simp at q
      | succ j => rw [show c + (j + 1) = c + 1 + j by omega]; exact ih (c + 1) hc j o (by simpa using q)
    | some o1 => cases j with
      | zero => simp at q; subst q; exact hc.1
      | succ j => rw [show c + (j + 1) = c + 1 + j by omega]; exact ih (c + 1) hc.2 j o (by simpa using q)
theorem glue_of {f : Em} {k k1 h : Heap} {l : List (Option Ob)} (hn : l.length.beq (h.n + (k1.n - k.n)) = true) (hl : k.n.ble k1.n = true) (hc : Covs f k k1 h 0 l) : Glue f k k1 h (hq l) where
  n := Nat.eq_of_beq_eq_true hn
  le := Nat.le_of_ble_eq_true hl
  wf := hq_wf l
  cov := fun c o q => by
    have := hc.spec l 0 c o (hq_some q)
    rwa [Nat.zero_add] at this
def isNm (f : Em) (b c : Nat) : Bool := match f b with | some (some d) => d.beq c | _ => false
theorem isNm_spec {f : Em} {b c : Nat} (h : isNm f b c = true) : f b = some (some c) := by
  unfold isNm at h
  split at h
  · rename_i d q; rw [q, Nat.eq_of_beq_eq_true h]
  · cases h
/-- A block that the call does not know. -/
theorem cov_old {l : List (Option Nat)} {k k1 h : Heap} {c : Nat} {o : Ob} (h1 : (c.blt h.n && l.all (fun x => match x with | some d => !d.beq c | none => true)) = true) (h2 : h.get c = some o) : CovAt (emOf l) k k1 h c o := by
  rw [Bool.and_eq_true] at h1
  refine .inr ⟨Nat.le_of_ble_eq_true h1.1, fun b q => ?_, h2⟩
  have := List.all_eq_true.1 h1.2 _ (List.mem_of_getElem? q)
  simp only [Nat.beq_refl, Bool.not_true] at this
  cases this
/-- A block that the call leaves as it is. -/
theorem cov_same {f : Em} {k k1 h : Heap} {c : Nat} {o : Ob} (b : Nat) (hf : HN f k h) (hle : k.n.ble k1.n = true) (h0 : isNm f b c = true) (h1 : k1.get b = k.get b) (hs : (k.get b).isSome = true) (h2 : h.get c = some o) : CovAt f k k1 h c o := by
  have h0 := isNm_spec h0
  obtain ⟨o', ho'⟩ := Option.isSome_iff_exists.1 hs
  obtain ⟨cs, g1, g2⟩ := hf.blk b c o' ho' h0
  rw [h2] at g1
  have hbn := hf.dom _ _ h0
  have e1 : o = ⟨cs, o'.elem, o'.ro⟩ := Option.some.inj g1
  refine .inl ⟨b, o', Nat.lt_of_lt_of_le hbn (Nat.le_of_ble_eq_true hle), by rw [Em.ext_lt hbn]; exact h0, by rw [h1, ho'], by rw [e1], by rw [e1], ?_⟩
  rw [e1]
  refine ⟨g2.1, fun i x hx => ?_⟩
  obtain ⟨y, hy, hv⟩ := g2.2 i x hx
  exact ⟨y, hy, hv.mono fun b' x' q' => by rw [Em.ext_lt (hf.dom _ _ q')]; exact q'⟩
/-- A block that it made, or wrote. -/
theorem cov_ren {f : Em} {k k1 h : Heap} {c : Nat} {o : Ob} (b : Nat) (h0 : (b.blt k1.n && isNm (f.ext k.n h.n) b c) = true) (h1 : (match k1.get b with | some o1 => obRn (f.ext k.n h.n) o1 | none => none) = some o) : CovAt f k k1 h c o := by
  rw [Bool.and_eq_true] at h0
  split at h1
  · rename_i o1 q
    unfold obRn at h1
    split at h1
    · rename_i l q2
      cases h1
      exact .inl ⟨b, o1, Nat.le_of_ble_eq_true h0.1, isNm_spec h0.2, q, rfl, rfl, rnG_sound rn1_sound _ _ q2⟩
    · cases h1
  · cases h1
theorem cov_flat {f : Em} {k k1 h : Heap} {c : Nat} {cells : List Value} {e : TypeId} {ro : Bool} (b : Nat) (h0 : (b.blt k1.n && isNm (f.ext k.n h.n) b c) = true) (h1 : k1.get b = some ⟨cells, e, ro⟩) (hf : cells.all plain = true) : CovAt f k k1 h c ⟨cells, e, ro⟩ := by
  rw [Bool.and_eq_true] at h0
  exact .inl ⟨b, _, Nat.le_of_ble_eq_true h0.1, isNm_spec h0.2, h1, rfl, rfl, RNs.of_plain hf⟩
/-! Loops, joins -/
theorem SubS.cx {n0 : Nat} {f e : Em} {k s : St} {H : Heap} (hs : SubS n0 f k s) (h0 : X.h0.n = n0) (hx : CX X e s.H H) : CX X (f.comp e) k.H H := by
  subst h0; exact hs.mem.cx X.ok hx
/-- The state told anew. -/
theorem sd_re (s0 : St) (f : Em) {n0 : Nat} (h0 : X.h0.n = n0) (hs : SubS n0 f s0 c.s) (hk : kfix f c.K = true) (hd : SD P T X Q ⟨c.n, c.p, c.K, s0⟩) : SD P T X Q c := by
  intro e H tm' K' hx ht hK
  exact hd (f.comp e) H tm' K' (hs.cx h0 hx) (hs.te.comp ht) (KE.re hk hK)
theorem sd_loop (n : Nat) (a : Code) (K : List Kf) (hn : c.n = n) (hp : c.p = .code (.loop a)) (hK : c.K = K) (I : Nat → St → Prop) (m : Nat) (s0 : St) (f : Em) {n0 : Nat} (h0 : X.h0.n = n0) (hI : I m s0) (hs : SubS n0 f s0 c.s) (hk : kfix f K = true)
    (round : ∀ m s, I m s → ∀ R : St → Prop, (∀ s1 m' s' f, m' < m → I m' s' → SubS n0 f s' s1 → kfix f K = true → R s1) → SD P T X Q ⟨n, .code a, .inv R :: K, s⟩) : SD P T X Q c := by
  obtain ⟨n', p', K1, s⟩ := c
  cases hn; cases hp; cases hK
  intro e H tm' K' hx ht hK
  refine cf_loop n' a K' rfl rfl rfl (fun m st => ∃ s e, I m s ∧ CX X e s.H st.H ∧ TE e s.tm st.tm ∧ KE X K1 e K') m ⟨s0, f.comp e, hI, hs.cx h0 hx, hs.te.comp ht, KE.re hk hK⟩ ?_
  rintro m ⟨tm2, H2⟩ ⟨s, e2, g1, g2, g3, g4⟩ R' hR
  refine round m s g1 (fun s1 => ∃ m' s' f, m' < m ∧ I m' s' ∧ SubS n0 f s' s1 ∧ kfix f K1 = true) (fun s1 m' s' f a1 a2 a3 a4 => ⟨m', s', f, a1, a2, a3, a4⟩) e2 H2 tm2 (.inv R' :: K') g2 g3 ⟨R', K', rfl, ?_, g4⟩
  rintro s1 e1 H1 tm1 q1 q2 q3 ⟨m', s', f', a1, a2, a3, a4⟩
  exact hR ⟨tm1, H1⟩ ⟨m', a1, s', f'.comp e1, a2, a3.cx h0 q1, a3.te.comp q2, KE.re a4 q3⟩
theorem sd_inv (R : St → Prop) (h : invH c = some R) (hr : R c.s) : SD P T X Q c := by
  obtain ⟨n, p, K, s⟩ := c
  intro e H tm' K' hx ht hK
  unfold invH at h
  split at h
  · rename_i q
    split at h
    · rename_i R1 K1 q2
      cases h
      simp only at q q2 hx ht hK hr
      subst q q2
      obtain ⟨R', L, rfl, h1, h2⟩ := hK
      exact cf_inv R' rfl (h1 s e H tm' hx ht h2 hr)
    · cases h
  · cases h
theorem cf_midK (n : Nat) (a : Code) (K : List Kf) (s : St) (R : St → Prop) (h1 : Den P T ⟨n, .code a, .inv R :: K, s⟩ Q) (h2 : ∀ s', R s' → Den P T ⟨n, .done .normal, K, s'⟩ Q) : Den P T ⟨n, .code a, K, s⟩ Q := by
  unfold Den at h1 h2 ⊢
  simp only at h1 h2 ⊢
  refine Aw.mono h1 fun x s' h => ?_
  replace h : Xt.then R (kont P T n K Q) x s' := h
  cases x with
  | normal => unfold Xt.then at h; exact h2 s' h
  | ret => unfold Xt.then at h; exact h
  | exit i => unfold Xt.then at h; exact h
/-- Ways that meet again. -/
theorem sd_mid (n : Nat) (a : Code) (K : List Kf) (hn : c.n = n) (hp : c.p = .code a) (hK : c.K = K) (I : St → Prop) {n0 : Nat} (h0 : X.h0.n = n0)
    (h1 : ∀ R : St → Prop, (∀ s1 s' f, I s' → SubS n0 f s' s1 → kfix f K = true → R s1) → SD P T X Q ⟨n, .code a, .inv R :: K, c.s⟩) (h2 : ∀ s', I s' → SD P T X Q ⟨n, .done .normal, K, s'⟩) : SD P T X Q c := by
  obtain ⟨n', p', K1, s⟩ := c
  cases hn; cases hp; cases hK
  intro e H tm' K' hx ht hK
  refine cf_midK n' a K' _ (fun s' => Den P T ⟨n', .done .normal, K', s'⟩ Q) ?_ fun _ h => h
  refine h1 (fun s1 => ∃ s' f, I s' ∧ SubS n0 f s' s1 ∧ kfix f K1 = true) (fun s1 s' f a2 a3 a4 => ⟨s', f, a2, a3, a4⟩) e H tm' _ hx ht ⟨_, K', rfl, ?_, hK⟩
  rintro s1 e1 H1 tm1 q1 q2 q3 ⟨s', f', a2, a3, a4⟩
  exact h2 s' a2 (f'.comp e1) H1 tm1 K' (a3.cx h0 q1) (a3.te.comp q2) (KE.re a4 q3)
/-! Beginning and end -/
theorem scall_sd [OrcDat T] {f : FuncId} {fn : Func} {b : Code} {args : Array Value} {h : Heap} {R : Value → Heap → Prop} (n : Nat) (tm : Tr Value) (n0 : Nat) (ho : T.orc f args.toList = none) (hf : T.fn f = some fn) (hb : fn.body = some b) (hn : args.size + (fn.ntmps - args.size) = n) (ht : initTm 0 args = tm) (hh : h.n = n0)
    (hd : ∀ X : Cx, X.h0.n = n0 → SD P T X (QF T X fn.results R) ⟨n, .code b, [], ⟨tm, h⟩⟩) : SCall P T f args h R := by
  intro e args' H hN hA
  have hsz : args.size = args'.size := by simpa using hA.1
  refine acall_cf n (initTm 0 args') (by rw [OrcDat.rn inferInstance hA]; exact ho) hf hb (by rw [← hsz]; exact hn) rfl ?_
  exact hd ⟨h, e, H, hN⟩ hh e H (initTm 0 args') [] ⟨hN, Ex.refl _ _ _⟩ (by rw [← ht]; exact init_rn hA) rfl
theorem sd_end {rs : Array ResultVar} {R : Value → Heap → Prop} (v : Value) {n0 : Nat} (h0 : X.h0.n = n0) (he : atEnd c = true) (hp : rs.toList.all (presR c.s.tm) = true) (hv : aresults T c.s.tm c.s.H rs = some v) (w : Value) (k : Heap) (f : Em) (hs : Sub n0 f k c.s.H) (hw : RN f w v) (hr : R w k) : SD P T X (QF T X rs R) c := by
  subst h0
  obtain ⟨n, p, K, s⟩ := c
  intro e H tm' K' hx ht hK
  obtain ⟨v', g1, g2⟩ := aresults_rn ht hx.hn hp hv
  have hx' := hs.cx X.ok hx
  have hK' : K' = [] := by
    unfold atEnd at he
    split at he
    · cases K with
      | nil => exact hK
      | cons => cases he
    · cases K with
      | nil => exact hK
      | cons => cases he
    · cases he
  subst hK'
  refine cf_end v' H ?_ g1 rfl ⟨w, k, _, hr, hx'.hn, hx'.ex, hw.comp g2⟩
  unfold atEnd at he ⊢
  split at he
  · rename_i q; simp only at q; subst q; rfl
  · rename_i q; simp only at q; subst q; rfl
  · cases he
/-- A contract, at a memory at hand. -/
theorem SCall.at_ {f : FuncId} {args args' : Array Value} {h H : Heap} {R : Value → Heap → Prop} (hc : SCall P T f args h R) (e : Em) (hn : HN e h H) (ha : RNs e args.toList args'.toList) {R' : Value → Heap → Prop} (hr : ∀ v h1 e1 v' H1, R v h1 → HN e1 h1 H1 → Ex e e1 h H h1 H1 → RN e1 v v' → R' v' H1) : ACall P T f args' H R' :=
  (hc e args' H hn ha).mono fun v' H1 ⟨v, h1, e1, k1, k2, k3, k4⟩ => hr v h1 e1 v' H1 k1 k2 k3 k4
end
end Go.Ev
