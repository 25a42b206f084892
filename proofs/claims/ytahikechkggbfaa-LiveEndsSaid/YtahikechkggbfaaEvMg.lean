/- Memory under other names: regions whose order is drawn, where a read may change places with an act. -/
import Derived.Test.YtahikechkggbfaaEvMf
namespace Go.Ev
open Go
set_option linter.unusedVariables false
set_option linter.unusedSimpArgs false
structure Vf where
  n : Nat
  ops : Array Oper
  k : Nat
  l : List Oper
  K : List Kf
  s : St
  hS : Heap
section
variable (P : Program) (T : Tab) (X : Cx)
def SV (Q : Xt → St → Prop) (c : Vf) : Prop := ∀ eS HS, HN eS c.hS HS → ∀ e H tm' K', CX X e c.s.H H → Ex eS e c.hS HS c.s.H H → TE e c.s.tm tm' → KE X c.K e K' →
  AOpsV P T HS.n c.n c.ops c.k c.l (fun s' => Den P T ⟨c.n, .done .normal, K', s'⟩ Q) ⟨tm', H⟩
def Vf.put (c : Vf) (t : Nat) (v : Value) (h : Heap) : Vf := ⟨c.n, c.ops, c.k + 1, c.l.tail, c.K, ⟨c.s.tm.put t (some v), h⟩, c.hS⟩
def Vf.skp (c : Vf) (h : Heap) : Vf := ⟨c.n, c.ops, c.k + 1, c.l.tail, c.K, ⟨c.s.tm, h⟩, c.hS⟩
def Vf.see (c : Vf) (t : Nat) (v : Value) : Vf := ⟨c.n, c.ops, c.k, c.l, c.K, ⟨c.s.tm.put t (some v), c.s.H⟩, c.hS⟩
def actO (o : Op) : Bool := match cls T o with | .act => true | _ => false
def lookO (o : Op) : Bool := match cls T o with | .look => true | _ => false
def finV (c : Vf) (o : Oper) (v : Value) (h : Heap) : Option Vf := match dput c.n c.s.tm o.dst v with
  | some tm => some ⟨c.n, c.ops, c.k + 1, c.l.tail, c.K, ⟨tm, h⟩, c.hS⟩
  | none => none
def stepV (c : Vf) : Option Vf := match c.l with
  | [] => none
  | o :: _ =>
    bif strictO c.s.tm c.ops o then
      bif awanted c.ops c.s.tm o then
        match aop P T c.s.tm o c.s.H with
        | some (.val v, h) => bif (!actO T o.op || !calm T c.ops c.k) && !(lookO T o.op && lkat T c.ops c.k) then finV c o v h else none
        | some (.skip, h) => bif !calm T c.ops c.k then finV c o undef h else none
        | some (.enter f args, h) => match T.orc f args.toList with | some v => finV c o v h | none => none
        | none => none
      else finV c o undef c.s.H
    else none
/-- Ahead of the line: what stands between no pair. -/
def SVp (Q : Xt → St → Prop) (c : Vf) : Prop := ∀ e H tm' K', CX X e c.s.H H → TE e c.s.tm tm' → KE X c.K e K' → ∃ lo, AOpsV P T lo c.n c.ops c.k c.l (fun s' => Den P T ⟨c.n, .done .normal, K', s'⟩ Q) ⟨tm', H⟩
def stepP (c : Vf) : Option Vf := bif calm T c.ops c.k || lkat T c.ops c.k then none else stepV P T c
def goP : Nat → Vf → Vf
  | 0, c => c
  | k + 1, c => match stepP P T c with
    | some c' => goP k c'
    | none => c
def goV : Nat → Vf → Vf
  | 0, c => c
  | k + 1, c => match stepV P T c with
    | some c' => goV k c'
    | none => c
end
section
variable {P : Program} {T : Tab} {X : Cx} {Q : Xt → St → Prop}
theorem val_heap {u : Option Value} {H H1 : Heap} {v : Value} (h : val u H = some (.val v, H1)) : H1 = H := by unfold val at h; split at h <;> cases h; rfl
/-- What is no act leaves what was there. -/
theorem free_up {tm : Tr Value} {o : Oper} {H H1 : Heap} {v : Value} (hc : actO T o.op = false) (h : aop P T tm o H = some (.val v, H1)) {lo : Nat} (hl : lo ≤ H.n) : Up lo H H1 := by
  have same : H1 = H → Up lo H H1 := fun q => by rw [q]; exact Up.refl _
  unfold aop at h
  split at h
  all_goals first
    | exact same (val_heap h)
    | (cases h; done)
    | (split at h <;> first | exact same (val_heap h) | (cases h; exact Up.refl _) | (cases h; exact Up.push hl (Up.refl _) _) | (cases h; done) | (split at h <;> first | exact same (val_heap h) | (cases h; done)) | skip)
    | skip
  · rename_i z _; cases hz : closed z <;> rw [hz] at h <;> cases h; exact Up.push hl (Up.refl _) _
  · unfold val2 at h
    split at h
    · rename_i q
      cases h
      unfold abuildSlice at q
      split at q
      · split at q
        · rename_i s z _ _
          revert q
          generalize (_ && _ && _) = bb
          intro q
          cases bb
          · cases q
          · simp only [cond_true] at q
            split at q
            · cases q; exact Up.push hl (Up.refl _) _
            · cases q
        · cases q
      · cases q
    · cases h
  · unfold skp at h; split at h <;> cases h
  · unfold val2 at h
    split at h
    · rename_i q
      cases h
      unfold amakeSlice at q
      split at q
      · split at q
        · revert q
          generalize (_ && _ && _ && _) = bb
          intro q
          cases bb
          · cases q
          · cases q; exact Up.push hl (Up.refl _) _
        · cases q
      · cases q
    · cases h
  · rename_i c hop
    rw [hop] at hc
    unfold acall at h
    split at h
    · rename_i hcal; simp [actO, cls, hcal] at hc
    · cases h
    · rename_i b hcal
      simp only [actO, cls, hcal] at hc
      split at h
      all_goals first
        | (cases hc; done)
        | exact same (val_heap h)
        | (cases h; exact Up.refl _)
        | (cases h; done)
        | (split at h <;> first | (cases h; exact Up.refl _) | (cases h; done))
theorem up_big {eS e e1 : Em} {hS HS h H h1 H1 : Heap} (hs : HN eS hS HS) (xs : Ex eS e hS HS h H) (hn : HN e h H) (hn1 : HN e1 h1 H1) (ex : Ex e e1 h H h1 H1) (hu : ∀ b, b < hS.n → h1.get b = h.get b) : Up HS.n H H1 where
  n := ex.Hn
  get := fun c hc => by
    by_cases hb : ∃ b, e b = some (some c) ∧ (h.get b).isSome
    · obtain ⟨b, h2, h3⟩ := hb
      obtain ⟨o, ho⟩ := Option.isSome_iff_exists.1 h3
      have hlt : b < hS.n := by
        rcases xs.new _ _ h2 with q | ⟨_, q⟩
        · exact hs.dom _ _ q
        · have := q c rfl; omega
      obtain ⟨cs, g1, g2⟩ := hn.blk b c o ho h2
      obtain ⟨cs1, g3, g4⟩ := hn1.blk b c o (by rw [hu b hlt]; exact ho) (ex.le _ _ h2)
      rw [g1, g3, (g2.mono ex.le).inj g4]
    · exact ex.keep c (Nat.lt_of_lt_of_le hc xs.Hn) fun b q => by
        cases q2 : h.get b with
        | none => rfl
        | some o => exact absurd ⟨b, q, by rw [q2]; rfl⟩ hb
theorem veqs_rn {e : Em} : ∀ (l l' : List Value), RNs e l l' → veqs l l = true → veqs l' l' = true := by
  intro l
  induction l with
  | nil => intro l' h _; have : l' = [] := List.eq_nil_of_length_eq_zero (by have := h.1; simp at this; exact this.symm)
           subst this; rfl
  | cons x l ih =>
    intro l' h hv
    cases l' with
    | nil => have := h.1; simp at this
    | cons y l' =>
      obtain ⟨y', hy, hr⟩ := h.2 0 x (by simp)
      simp at hy
      subst hy
      simp only [veqs, Bool.and_eq_true] at hv ⊢
      refine ⟨?_, ih l' ⟨by have := h.1; simpa using this, fun i z hz => by simpa using h.2 (i + 1) z (by simpa using hz)⟩ hv.2⟩
      cases hr with
      | same hp => exact hv.1
      | ptr hb => simp [veq0]
      | slice hb => simp [veq0]
      | nils hb hc => simp [veq0]
      | _ => simp [veq0] at hv
theorem veq_rn {e : Em} {v v' : Value} (h : RN e v v') (hv : veq v v = true) : veq v' v' = true := by
  cases h with
  | same hp => exact hv
  | ptr hb => simp [veq, veq0]
  | slice hb => simp [veq, veq0]
  | nils hb hc => simp [veq, veq0]
  | agg hs h => exact veqs_rn _ _ (RNs.of_arr hs h) hv
  | _ => simp [veq, veq0] at hv
theorem alook_rn {e : Em} {h H : Heap} {o : Op} {u u' v : Value} (hv : alook T o u h = some v) (hn : HN e h H) (hu : RN e u u') : ∃ v', alook T o u' H = some v' ∧ RN e v v' := by
  unfold alook at hv ⊢
  split at hv
  · exact aload_rn hv hn hu
  · obtain ⟨g1, g2⟩ := aconvert_rn hv hn hu; exact ⟨v, g1, .same g2⟩
  · cases hv
variable {c : Vf}
theorem sd_drawV {d : Cf} (h : atD d = true) (hk : SV P T X Q ⟨d.n, opsD d, 0, (opsD d).toList, d.K, d.s, d.s.H⟩) : SD P T X Q d := by
  intro e H tm' K' hx ht hK
  have h' : atD ⟨d.n, d.p, K', ⟨tm', H⟩⟩ = true := by unfold atD at h ⊢; exact h
  exact cf_drawV H.n h' (hk e H hx.hn e H tm' K' hx (Ex.refl _ _ _) ht hK)
theorem sv_see (t : Nat) (v : Value) (h : c.s.tm.get t = some v) (hk : SV P T X Q (c.see t v)) : SV P T X Q c := by
  obtain ⟨n, ops, k, l, K, s, hS⟩ := c
  have := st_see t v h
  unfold Vf.see at hk
  rw [← this] at hk
  exact hk
theorem sv_end (he : c.l.isEmpty = true) (hk : SD P T X Q ⟨c.n, .done .normal, c.K, c.s⟩) : SV P T X Q c := fun eS HS hs e H tm' K' hx xs ht hK => aopsV_end he (hk e H tm' K' hx ht hK)
def strictV (c : Vf) : Bool := guardP c.s.tm c.ops (hdO c.l) && ((hdO c.l).op.operands.toList.all (pres c.s.tm) && okB c.s.tm (hdO c.l).op)
theorem big_okV {t : Nat} {e : Em} {tm' : Tr Value} {H : Heap} (ho : okV c.n c.ops c.s c.l t = true) (hs : strictV c = true) (ht : TE e c.s.tm tm') : okV c.n c.ops ⟨tm', H⟩ c.l t = true := by
  unfold strictV at hs
  rw [Bool.and_eq_true] at hs
  have haw := awanted_rn ht hs.1
  unfold okV at ho ⊢
  rw [show awanted c.ops (⟨tm', H⟩ : St).tm (hdO c.l) = awanted c.ops c.s.tm (hdO c.l) from haw]
  exact ho
theorem sv_val (t : Nat) (v : Value) (h1 : Heap) (ho : okV c.n c.ops c.s c.l t = true) (hs : strictV c = true) (ha : aop P T c.s.tm (hdO c.l) c.s.H = some (.val v, h1)) (hq : calm T c.ops c.k = true → ∀ b, b < c.hS.n → h1.get b = c.s.H.get b)
    (hl : (lookO T (hdO c.l).op && lkat T c.ops c.k) = false) (hk : SV P T X Q (c.put t v h1)) : SV P T X Q c := by
  intro eS HS hS e H tm' K' hx xs ht hK
  have hs' := hs
  unfold strictV at hs'
  simp only [Bool.and_eq_true] at hs'
  obtain ⟨r', H1, e1, g1, g2, g3, g4⟩ := aop_rn ha hx.hn (ht.op hs'.2.1) hs'.2.2
  cases g4 with
  | val hv =>
    refine aopsV_val t _ H H1 (big_okV ho hs ht) g1 rfl (fun hc => up_big hS xs hx.hn g2 g3 (hq hc)) ?_ (hk eS HS hS e1 H1 _ K' (hx.next X.ok g2 g3) (xs.trans hS g3) ((ht.mono g3.le).put t hv) (KE.mono g3.le hK))
    cases hcl : cls T (hdO c.l).op <;> first | rfl | (simp only [lookO, hcl, Bool.true_and] at hl; rw [hl]; rfl)
theorem sv_skip (h1 : Heap) (he : c.l.isEmpty = false) (hw : awanted c.ops c.s.tm (hdO c.l) = true) (hd : (hdO c.l).dst = none) (hs : strictV c = true) (ha : aop P T c.s.tm (hdO c.l) c.s.H = some (.skip, h1)) (hq : calm T c.ops c.k = true → ∀ b, b < c.hS.n → h1.get b = c.s.H.get b)
    (hk : SV P T X Q (c.skp h1)) : SV P T X Q c := by
  intro eS HS hS e H tm' K' hx xs ht hK
  have hs' := hs
  unfold strictV at hs'
  simp only [Bool.and_eq_true] at hs'
  obtain ⟨r', H1, e1, g1, g2, g3, g4⟩ := aop_rn ha hx.hn (ht.op hs'.2.1) hs'.2.2
  cases g4 with
  | skip => exact aopsV_skip H H1 he ((awanted_rn ht hs'.1).trans hw) hd g1 rfl (fun hc => up_big hS xs hx.hn g2 g3 (hq hc)) (hk eS HS hS e1 H1 _ K' (hx.next X.ok g2 g3) (xs.trans hS g3) (ht.mono g3.le) (KE.mono g3.le hK))
theorem look_aop {tm : Tr Value} {o : Oper} {H : Heap} {x : Operand} {u v : Value} (hx0 : lookArg o.op = some x) (k1 : aeval tm x = some u) (k3 : alook T o.op u H = some v) : aop P T tm o H = some (.val v, H) := by
  unfold aop
  cases hop : o.op with
  | load ty a =>
    rw [hop] at hx0 k3
    simp only [lookArg] at hx0
    cases hx0
    simp only [alook] at k3
    simp only [k1, k3, val]
  | convert s d a =>
    rw [hop] at hx0 k3
    simp only [lookArg] at hx0
    cases hx0
    simp only [alook] at k3
    simp only [k1, k3, orVal, val]
  | _ => rw [hop] at hx0; cases hx0
theorem sv_look (t : Nat) (v u : Value) (x : Operand) (ho : okV c.n c.ops c.s c.l t = true) (hs : strictV c = true) (hx0 : lookArg (hdO c.l).op = some x) (hu : aeval c.s.tm x = some u) (hv : alook T (hdO c.l).op u c.s.H = some v) (hvv : veq v v = true) (hlow : LowB c.hS.n u) (hk : SV P T X Q (c.put t v c.s.H)) : SV P T X Q c := by
  have ha := look_aop (P := P) hx0 hu hv
  intro eS HS hS e H tm' K' hx xs ht hK
  have hs' := hs
  unfold strictV at hs'
  simp only [Bool.and_eq_true] at hs'
  have hxm : x ∈ (hdO c.l).op.operands.toList := by
    revert hx0
    generalize (hdO c.l).op = op
    intro hx0
    unfold lookArg at hx0
    split at hx0 <;> cases hx0 <;> simp [Op.operands]
  obtain ⟨u', k1, k2⟩ := ht.op hs'.2.1 x hxm u hu
  obtain ⟨v', k3, k4⟩ := alook_rn hv hx.hn k2
  obtain ⟨r', H1, e1, g1, g2, g3, g4⟩ := aop_rn ha hx.hn (ht.op hs'.2.1) hs'.2.2
  have hlook : aop P T tm' (hdO c.l) H = some (.val v', H) := look_aop hx0 k1 k3
  refine aopsV_get t v' u' x H (big_okV ho hs ht) hx0 k1 rfl k3 (veq_rn k4 hvv) ?_ hlook (hk eS HS hS e H _ K' hx xs (ht.put t k4) hK)
  intro b hb
  have rng : ∀ b0 c0, readsB u b0 → e b0 = some (some c0) → c0 < HS.n := fun b0 c0 hr he => by
    have hlt := hlow b0 hr
    rcases xs.new _ _ he with q | ⟨q, _⟩
    · exact hS.rng _ _ q
    · omega
  cases k2 with
  | same hp =>
    have := hlow b hb
    rcases hb with ⟨o, q⟩ | ⟨o, n, cc, q⟩ <;> (rw [q] at hp; simp [plain] at hp)
  | ptr he =>
    rename_i b0 off c0
    rcases hb with ⟨o, q⟩ | ⟨o, n, cc, q⟩
    · injection q with q; injection q with q; injection q with q _
      subst q
      exact rng b0 _ (.inl ⟨_, rfl⟩) he
    · cases q
  | slice he =>
    rename_i b0 off c0 n0 cap0
    rcases hb with ⟨o, q⟩ | ⟨o, n, cc, q⟩
    · cases q
    · injection q with q _ _; injection q with q; injection q with q _
      subst q
      exact rng b0 _ (.inr ⟨_, _, _, rfl⟩) he
  | _ => rcases hb with ⟨o, q⟩ | ⟨o, n, cc, q⟩ <;> cases q
theorem sv_ask [OrcDat T] (t : Nat) (v : Value) (f : FuncId) (args : Array Value) (ho : okV c.n c.ops c.s c.l t = true) (hs : strictV c = true) (ha : aop P T c.s.tm (hdO c.l) c.s.H = some (.enter f args, c.s.H)) (hv : T.orc f args.toList = some v) (hk : SV P T X Q (c.put t v c.s.H)) : SV P T X Q c := by
  intro eS HS hS e H tm' K' hx xs ht hK
  have hs' := hs
  unfold strictV at hs'
  simp only [Bool.and_eq_true] at hs'
  obtain ⟨r', H1, e1, g1, g2, g3, g4⟩ := aop_rn ha hx.hn (ht.op hs'.2.1) hs'.2.2
  cases g4 with
  | enter hr =>
    rename_i args'
    have hv' : T.orc f args'.toList = some v := by rw [OrcDat.rn inferInstance hr]; exact hv
    have hcl := (OrcDat.dat (T := T) _ _ _ hv).1
    have := enter_heap g1
    subst this
    exact aopsV_ask t v f args' (big_okV ho hs ht) g1 hv' (hk eS HS hS e1 H1 _ K' (hx.next X.ok g2 g3) (xs.trans hS g3) ((ht.mono g3.le).put t (.of_closed hcl)) (KE.mono g3.le hK))
theorem sv_call (t : Nat) (f : FuncId) (args : Array Value) {R : Value → Heap → Prop} {args0 : Array Value} {k : Heap} (hc : SCall P T f args0 k R) (g : Em) (ho : okV c.n c.ops c.s c.l t = true) (hs : strictV c = true)
    (ha : aop P T c.s.tm (hdO c.l) c.s.H = some (.enter f args, c.s.H)) (hg : HN g k c.s.H) (hr : RNs g args0.toList args.toList)
    (hk : ∀ v k1, R v k1 → ∃ w h1, Glue g k k1 c.s.H h1 ∧ RN (g.ext k.n c.s.H.n) v w ∧ (calm T c.ops c.k = true → ∀ b, b < c.hS.n → h1.get b = c.s.H.get b) ∧ SV P T X Q (c.put t w h1)) : SV P T X Q c := by
  intro eS HS hS e H tm' K' hx xs ht hK
  have hs' := hs
  unfold strictV at hs'
  simp only [Bool.and_eq_true] at hs'
  obtain ⟨r', H1, e1, g1, g2, g3, g4⟩ := aop_rn ha hx.hn (ht.op hs'.2.1) hs'.2.2
  cases g4 with
  | enter hr2 =>
    rename_i args'
    have := enter_heap g1
    subst this
    have hx1 := hx.next X.ok g2 g3
    have xs1 := xs.trans hS g3
    have run : ∀ v' H2, (∃ v k1 e2, R v k1 ∧ HN e2 k1 H2 ∧ Ex (g.comp e1) e2 k H1 k1 H2 ∧ RN e2 v v') → ∃ w h1 e3, HN e3 h1 H2 ∧ Ex e1 e3 c.s.H H1 h1 H2 ∧ RN e3 w v' ∧ (calm T c.ops c.k = true → ∀ b, b < c.hS.n → h1.get b = c.s.H.get b) ∧ SV P T X Q (c.put t w h1) := by
      rintro v' H2 ⟨v, k1, e2, r1, r2, r3, r4⟩
      obtain ⟨w, h1, gl, rw_, hcm, hd⟩ := hk v k1 r1
      obtain ⟨e3, s1, s2, s3⟩ := gl.run hg g2 r2 r3
      exact ⟨w, h1, e3, s1, s2, s3 _ _ _ rw_ r4, hcm, hd⟩
    refine aopsV_call t f args' H1 (big_okV ho hs ht) g1 rfl (hc (g.comp e1) args' H1 (hg.comp g2) (hr.comp hr2)) (fun hcm v' H2 hh => ?_) fun v' H2 hh => ?_
    · obtain ⟨w, h1, e3, s1, s2, s3, s4, _⟩ := run v' H2 hh
      exact up_big hS xs1 hx1.hn s1 s2 (s4 hcm)
    · obtain ⟨w, h1, e3, s1, s2, s3, _, hd⟩ := run v' H2 hh
      exact hd eS HS hS e3 H2 _ K' (hx1.next X.ok s1 s2) (xs1.trans hS s2) (((ht.mono g3.le).mono s2.le).put t s3) (KE.mono s2.le (KE.mono g3.le hK))
theorem stepV_sound [OrcDat T] {c' : Vf} (h : stepV P T c = some c') (hd : SV P T X Q c') : SV P T X Q c := by
  intro eS HS hS e H tm' K' hx xs ht hK
  obtain ⟨n, ops, k, l, K, s, h0⟩ := c
  simp only at hS hx xs ht hK ⊢
  unfold stepV at h
  simp only at h
  cases l with
  | nil => cases h
  | cons o l =>
    simp only at h
    cases hst : strictO s.tm ops o
    · rw [hst] at h; cases h
    rw [hst] at h
    simp only [cond_true] at h
    unfold strictO at hst
    simp only [Bool.and_eq_true] at hst
    obtain ⟨hg, hst⟩ := hst
    have haw := awanted_rn ht hg
    have fin : ∀ {v v' : Value} {h1 H1 : Heap} {e1 : Em}, finV ⟨n, ops, k, o :: l, K, s, h0⟩ o v h1 = some c' → HN e1 h1 H1 → Ex e e1 s.H H h1 H1 → RN e1 v v' → APut n o.dst v' tm' H1 (AOpsV P T HS.n n ops (k + 1) l fun s' => Den P T ⟨n, .done .normal, K', s'⟩ Q) := by
      intro v v' h1 H1 e1 hf g2 g3 hv
      unfold finV at hf
      simp only at hf
      cases hdst : o.dst with
      | none =>
        rw [hdst] at hf
        simp only [dput] at hf
        cases hf
        exact aput_k (tm' := tm') rfl (hd eS HS hS e1 H1 tm' K' (hx.next X.ok g2 g3) (xs.trans hS g3) (ht.mono g3.le) (KE.mono g3.le hK))
      | some d =>
        rw [hdst] at hf
        simp only [dput] at hf
        cases hb : d.blt n
        · rw [hb] at hf; cases hf
        · rw [hb] at hf
          simp only [cond_true] at hf
          cases hf
          exact aput_k (tm' := tm'.put d (some v')) (by simp only [dput, hb, cond_true]) (hd eS HS hS e1 H1 _ K' (hx.next X.ok g2 g3) (xs.trans hS g3) ((ht.mono g3.le).put d hv) (KE.mono g3.le hK))
    have goal : AStepV P T HS.n n ops k o (AOpsV P T HS.n n ops (k + 1) l fun s' => Den P T ⟨n, .done .normal, K', s'⟩ Q) ⟨tm', H⟩ := by
      unfold AStepV
      simp only [haw]
      cases hw : awanted ops s.tm o
      · rw [hw] at h
        simp only [cond_false] at h ⊢
        exact fin h hx.hn (Ex.refl _ _ _) (.of_closed rfl)
      · rw [hw] at h hst
        simp only [cond_true, Bool.not_true, Bool.false_or, Bool.and_eq_true] at h hst ⊢
        split at h
        · rename_i v h1 q
          obtain ⟨r', H1, e1, g1, g2, g3, g4⟩ := aop_rn q hx.hn (ht.op hst.1) hst.2
          cases g4 with
          | val hv =>
            cases hb : ((!actO T o.op || !calm T ops k) && !(lookO T o.op && lkat T ops k))
            · rw [hb] at h; cases h
            rw [hb] at h
            simp only [cond_true] at h
            simp only [Bool.and_eq_true, Bool.or_eq_true, Bool.not_eq_true'] at hb
            simp only [g1]
            refine ⟨fun hc => ?_, fun hlk h5 => ?_, fin h g2 g3 hv⟩
            · rcases hb.1 with q1 | q1
              · exact free_up q1 g1 xs.Hn
              · rw [hc] at q1; cases q1
            · exfalso
              have := hb.2
              simp only [lookO, hlk, h5, Bool.and_self] at this
              cases this
        · rename_i h1 q
          obtain ⟨r', H1, e1, g1, g2, g3, g4⟩ := aop_rn q hx.hn (ht.op hst.1) hst.2
          cases g4 with
          | skip =>
            cases hb : calm T ops k
            · rw [hb] at h
              simp only [Bool.not_false, cond_true] at h
              simp only [g1]
              exact ⟨fun hc => (by cases hc), fin h g2 g3 (.of_closed rfl)⟩
            · rw [hb] at h; cases h
        · rename_i f args h1 q
          obtain ⟨r', H1, e1, g1, g2, g3, g4⟩ := aop_rn q hx.hn (ht.op hst.1) hst.2
          cases g4 with
          | enter hr =>
            rename_i args'
            have := enter_heap g1
            subst this
            split at h
            · rename_i v q2
              have hv' : T.orc f args'.toList = some v := by rw [OrcDat.rn inferInstance hr]; exact q2
              simp only [g1]
              exact ⟨fun _ => Up.refl _, acall_orc hv' ⟨fun _ => Up.refl _, fin h g2 g3 (.of_closed (OrcDat.dat (T := T) _ _ _ q2).1)⟩⟩
            · cases h
        · cases h
    exact aopsV_cons goal
theorem stepP_sound [OrcDat T] {c' : Vf} (h : stepP P T c = some c') (hd : SVp P T X Q c') : SVp P T X Q c := by
  intro e H tm' K' hx ht hK
  unfold stepP at h
  cases hcl : (calm T c.ops c.k || lkat T c.ops c.k)
  case true => rw [hcl] at h; cases h
  rw [hcl] at h
  simp only [cond_false] at h
  rw [Bool.or_eq_false_iff] at hcl
  obtain ⟨hcm, hlk⟩ := hcl
  obtain ⟨n, ops, k, l, K, s, h0⟩ := c
  simp only at hx ht hK hcm hlk ⊢
  unfold stepV at h
  simp only at h
  cases l with
  | nil => cases h
  | cons o l =>
    simp only at h
    cases hst : strictO s.tm ops o
    · rw [hst] at h; cases h
    rw [hst] at h
    simp only [cond_true] at h
    unfold strictO at hst
    simp only [Bool.and_eq_true] at hst
    obtain ⟨hg, hst⟩ := hst
    have haw := awanted_rn ht hg
    have fin : ∀ {v v' : Value} {h1 H1 : Heap} {e1 : Em}, finV ⟨n, ops, k, o :: l, K, s, h0⟩ o v h1 = some c' → HN e1 h1 H1 → Ex e e1 s.H H h1 H1 → RN e1 v v' → ∃ lo, APut n o.dst v' tm' H1 (AOpsV P T lo n ops (k + 1) l fun s' => Den P T ⟨n, .done .normal, K', s'⟩ Q) := by
      intro v v' h1 H1 e1 hf g2 g3 hv
      unfold finV at hf
      simp only at hf
      cases hdst : o.dst with
      | none =>
        rw [hdst] at hf
        simp only [dput] at hf
        cases hf
        obtain ⟨lo, hlo⟩ := hd e1 H1 tm' K' (hx.next X.ok g2 g3) (ht.mono g3.le) (KE.mono g3.le hK)
        exact ⟨lo, aput_k (tm' := tm') rfl hlo⟩
      | some d =>
        rw [hdst] at hf
        simp only [dput] at hf
        cases hb : d.blt n
        · rw [hb] at hf; cases hf
        · rw [hb] at hf
          simp only [cond_true] at hf
          cases hf
          obtain ⟨lo, hlo⟩ := hd e1 H1 (tm'.put d (some v')) K' (hx.next X.ok g2 g3) ((ht.mono g3.le).put d hv) (KE.mono g3.le hK)
          exact ⟨lo, aput_k (tm' := tm'.put d (some v')) (by simp only [dput, hb, cond_true]) hlo⟩
    suffices ∃ lo, AStepV P T lo n ops k o (AOpsV P T lo n ops (k + 1) l fun s' => Den P T ⟨n, .done .normal, K', s'⟩ Q) ⟨tm', H⟩ by
      obtain ⟨lo, hlo⟩ := this
      exact ⟨lo, aopsV_cons hlo⟩
    unfold AStepV
    simp only [haw]
    cases hw : awanted ops s.tm o
    · rw [hw] at h
      simp only [cond_false] at h ⊢
      exact fin h hx.hn (Ex.refl _ _ _) (.of_closed rfl)
    · rw [hw] at h hst
      simp only [cond_true, Bool.not_true, Bool.false_or, Bool.and_eq_true] at h hst ⊢
      split at h
      · rename_i v h1 q
        obtain ⟨r', H1, e1, g1, g2, g3, g4⟩ := aop_rn q hx.hn (ht.op hst.1) hst.2
        cases g4 with
        | val hv =>
          cases hb : ((!actO T o.op || !calm T ops k) && !(lookO T o.op && lkat T ops k))
          · rw [hb] at h; cases h
          rw [hb] at h
          simp only [cond_true] at h
          simp only [g1]
          obtain ⟨lo, hlo⟩ := fin h g2 g3 hv
          exact ⟨lo, calm_no hcm, fun _ h5 => (by rw [hlk] at h5; cases h5), hlo⟩
      · rename_i h1 q
        obtain ⟨r', H1, e1, g1, g2, g3, g4⟩ := aop_rn q hx.hn (ht.op hst.1) hst.2
        cases g4 with
        | skip =>
          rw [hcm] at h
          simp only [Bool.not_false, cond_true] at h
          simp only [g1]
          obtain ⟨lo, hlo⟩ := fin h g2 g3 (.of_closed rfl)
          exact ⟨lo, calm_no hcm, hlo⟩
      · rename_i f args h1 q
        obtain ⟨r', H1, e1, g1, g2, g3, g4⟩ := aop_rn q hx.hn (ht.op hst.1) hst.2
        cases g4 with
        | enter hr =>
          rename_i args'
          have := enter_heap g1
          subst this
          split at h
          · rename_i v q2
            have hv' : T.orc f args'.toList = some v := by rw [OrcDat.rn inferInstance hr]; exact q2
            simp only [g1]
            obtain ⟨lo, hlo⟩ := fin h g2 g3 (.of_closed (OrcDat.dat (T := T) _ _ _ q2).1)
            exact ⟨lo, fun _ => Up.refl _, acall_orc hv' ⟨fun _ => Up.refl _, hlo⟩⟩
          · cases h
      · cases h
theorem svp_go [OrcDat T] (k : Nat) (h : SVp P T X Q (goP P T k c)) : SVp P T X Q c := by
  induction k generalizing c with
  | zero => exact h
  | succ k ih =>
    cases q : stepP P T c with
    | none => simp only [goP, q] at h; exact h
    | some c' => simp only [goP, q] at h; exact stepP_sound q (ih h)
theorem svp_see (t : Nat) (v : Value) (h : c.s.tm.get t = some v) (hk : SVp P T X Q (c.see t v)) : SVp P T X Q c := by
  obtain ⟨n, ops, k, l, K, s, hS⟩ := c
  have := st_see t v h
  unfold Vf.see at hk
  rw [← this] at hk
  exact hk
/-- Here the line is drawn. -/
theorem svp_line (hk : SV P T X Q ⟨c.n, c.ops, c.k, c.l, c.K, c.s, c.s.H⟩) : SVp P T X Q c := fun e H tm' K' hx ht hK => ⟨H.n, hk e H hx.hn e H tm' K' hx (Ex.refl _ _ _) ht hK⟩
theorem sd_drawP {d : Cf} (h : atD d = true) (hk : SVp P T X Q ⟨d.n, opsD d, 0, (opsD d).toList, d.K, d.s, d.s.H⟩) : SD P T X Q d := by
  intro e H tm' K' hx ht hK
  have h' : atD ⟨d.n, d.p, K', ⟨tm', H⟩⟩ = true := by unfold atD at h ⊢; exact h
  obtain ⟨lo, hlo⟩ := hk e H tm' K' hx ht hK
  exact cf_drawV lo h' hlo
theorem sv_go [OrcDat T] (k : Nat) (h : SV P T X Q (goV P T k c)) : SV P T X Q c := by
  induction k generalizing c with
  | zero => exact h
  | succ k ih =>
    cases q : stepV P T c with
    | none => simp only [goV, q] at h; exact h
    | some c' => simp only [goV, q] at h; exact stepV_sound q (ih h)
end
end Go.Ev
