/- The evaluator: Memory under other names: regions whose order is drawn, where a read may change places with an act. Memory under other names: rules for what is told by a fact; rows of rows. Memory under other names:  -/
import Derived.Test.YtgpphhdndmdlgaaDoorEvd
import Derived.Test.YtgpphhdndmdlgaaDoorEvc
import Derived.ChangeShapes
import Derived.WideShapes
section
namespace Go.Ev
open Go
set_option linter.unusedVariables false
set_option linter.unusedSimpArgs false
structure Vf where
 n : Nat
 ops : Array Oper
 k : Nat
 l : List Oper
 K : List Kf
 s : St
 hS : Heap
section
variable (P : Program) (T : Tab) (X : Cx)
def SV (Q : Xt → St → Prop) (c : Vf) : Prop := ∀ eS HS, HN eS c.hS HS → ∀ e H tm' K', CX X e c.s.H H → Ex eS e c.hS HS c.s.H H → TE e c.s.tm tm' → KE X c.K e K' →
 AOpsV P T HS.n c.n c.ops c.k c.l (fun s' => Den P T ⟨c.n, .done .normal, K', s'⟩ Q) ⟨tm', H⟩
def Vf.put (c : Vf) (t : Nat) (v : Value) (h : Heap) : Vf := ⟨c.n, c.ops, c.k + 1, c.l.tail, c.K, ⟨c.s.tm.put t (some v), h⟩, c.hS⟩
def Vf.skp (c : Vf) (h : Heap) : Vf := ⟨c.n, c.ops, c.k + 1, c.l.tail, c.K, ⟨c.s.tm, h⟩, c.hS⟩
def Vf.see (c : Vf) (t : Nat) (v : Value) : Vf := ⟨c.n, c.ops, c.k, c.l, c.K, ⟨c.s.tm.put t (some v), c.s.H⟩, c.hS⟩
def actO (o : Op) : Bool := match cls T o with | .act => true | _ => false
def lookO (o : Op) : Bool := match cls T o with | .look => true | _ => false
def finV (c : Vf) (o : Oper) (v : Value) (h : Heap) : Option Vf := match dput c.n c.s.tm o.dst v with
 | some tm => some ⟨c.n, c.ops, c.k + 1, c.l.tail, c.K, ⟨tm, h⟩, c.hS⟩
 | none => none
def stepV (c : Vf) : Option Vf := match c.l with
 | [] => none
 | o :: _ =>
  bif strictO c.s.tm c.ops o then
   bif awanted c.ops c.s.tm o then
    match aop P T c.s.tm o c.s.H with
    | some (.val v, h) => bif (!actO T o.op || !calm T c.ops c.k) && !(lookO T o.op && lkat T c.ops c.k) then finV c o v h else none
    | some (.skip, h) => bif !calm T c.ops c.k then finV c o undef h else none
    | some (.enter f args, h) => match T.orc f args.toList with | some v => finV c o v h | none => none
    | none => none
   else finV c o undef c.s.H
  else none
def SVp (Q : Xt → St → Prop) (c : Vf) : Prop := ∀ e H tm' K', CX X e c.s.H H → TE e c.s.tm tm' → KE X c.K e K' → ∃ lo, AOpsV P T lo c.n c.ops c.k c.l (fun s' => Den P T ⟨c.n, .done .normal, K', s'⟩ Q) ⟨tm', H⟩
def stepP (c : Vf) : Option Vf := bif calm T c.ops c.k || lkat T c.ops c.k then none else stepV P T c
def goP : Nat → Vf → Vf
 | 0, c => c
 | k + 1, c => match stepP P T c with
  | some c' => goP k c'
  | none => c
def goV : Nat → Vf → Vf
 | 0, c => c
 | k + 1, c => match stepV P T c with
  | some c' => goV k c'
  | none => c
end
section
variable {P : Program} {T : Tab} {X : Cx} {Q : Xt → St → Prop}
theorem val_heap {u : Option Value} {H H1 : Heap} {v : Value} (h : val u H = some (.val v, H1)) : H1 = H := by unfold val at h; split at h <;> cases h; rfl
theorem free_up {tm : Tr Value} {o : Oper} {H H1 : Heap} {v : Value} (hc : actO T o.op = false) (h : aop P T tm o H = some (.val v, H1)) {lo : Nat} (hl : lo ≤ H.n) : Up lo H H1 := by
 have same : H1 = H → Up lo H H1 := fun q => by rw [q]; exact Up.refl _
 unfold aop at h
 split at h
 all_goals first
  | exact same (val_heap h)
  | (cases h; done)
  | (split at h <;> first | exact same (val_heap h) | (cases h; exact Up.refl _) | (cases h; exact Up.push hl (Up.refl _) _) | (cases h; done) | (split at h <;> first | exact same (val_heap h) | (cases h; done)) | skip)
  | skip
 ·rename_i z _; cases hz : closed z <;> rw [hz] at h <;> cases h; exact Up.push hl (Up.refl _) _
 ·unfold val2 at h
  split at h
  ·rename_i q
   cases h
   unfold abuildSlice at q
   split at q
   ·split at q
    ·rename_i s z _ _
     revert q
     generalize (_ && _ && _) = bb
     intro q
     cases bb
     ·cases q
     ·simp only [cond_true] at q
      split at q
      ·cases q; exact Up.push hl (Up.refl _) _
      ·cases q
    ·cases q
   ·cases q
  ·cases h
 ·unfold skp at h; split at h <;> cases h
 ·unfold val2 at h
  split at h
  ·rename_i q
   cases h
   unfold amakeSlice at q
   split at q
   ·split at q
    ·revert q
     generalize (_ && _ && _ && _) = bb
     intro q
     cases bb
     ·cases q
     ·cases q; exact Up.push hl (Up.refl _) _
    ·cases q
   ·cases q
  ·cases h
 ·rename_i c hop
  rw [hop] at hc
  unfold acall at h
  split at h
  ·rename_i hcal; simp [actO, cls, hcal] at hc
  ·cases h
  ·rename_i b hcal
   simp only [actO, cls, hcal] at hc
   split at h
   all_goals first
    | (cases hc; done)
    | exact same (val_heap h)
    | (cases h; exact Up.refl _)
    | (cases h; done)
    | (split at h <;> first | (cases h; exact Up.refl _) | (cases h; done))
def stayB (hS h : Heap) : Bool := (List.range hS.n).all fun b => !(hS.get b).isSome || (h.get b).isSome
theorem stayB_spec {hS h : Heap} (hh : stayB hS h = true) : ∀ b, b < hS.n → (hS.get b).isSome → (h.get b).isSome := fun b hb hs => by
 have := List.all_eq_true.1 hh b (List.mem_range.2 hb)
 rw [hs] at this
 exact this
theorem up_big {eS e e1 : Em} {hS HS h H h1 H1 : Heap} (hs : HN eS hS HS) (xs : Ex eS e hS HS h H) (hn : HN e h H) (hn1 : HN e1 h1 H1) (ex : Ex e e1 h H h1 H1) (hu : ∀ b, b < hS.n → h1.get b = h.get b) (hal : ∀ b, b < hS.n → (hS.get b).isSome → (h.get b).isSome) : Up HS.n H H1 where
 n := ex.Hn
 get := fun c hc => by
  by_cases hb : ∃ b, e b = some (some c) ∧ (h.get b).isSome
  ·obtain ⟨b, h2, h3⟩ := hb
   obtain ⟨o, ho⟩ := Option.isSome_iff_exists.1 h3
   have hlt : b < hS.n := by
    rcases xs.new _ _ h2 with q | ⟨_, q⟩
    ·exact hs.dom _ _ q
    ·rcases q c rfl with q | ⟨b0, g1, g2, g3⟩
     ·omega
     ·have := hal b0 (hs.dom _ _ g1) g2
      rw [g3] at this; cases this
   obtain ⟨cs, g1, g2⟩ := hn.blk b c o ho h2
   obtain ⟨cs1, g3, g4⟩ := hn1.blk b c o (by rw [hu b hlt]; exact ho) (ex.le _ _ h2)
   rw [g1, g3, (g2.mono ex.le).inj g4]
  ·exact ex.keep c (Nat.lt_of_lt_of_le hc xs.Hn) fun b q => by
     cases q2 : h.get b with
     | none => rfl
     | some o => exact absurd ⟨b, q, by rw [q2]; rfl⟩ hb
theorem veqs_rn {e : Em} : ∀ (l l' : List Value), RNs e l l' → veqs l l = true → veqs l' l' = true := by
 intro l
 induction l with
 | nil => intro l' h _; have : l' = [] := List.eq_nil_of_length_eq_zero (by have := h.1; simp at this; exact this.symm)
          subst this; rfl
 | cons x l ih =>
  intro l' h hv
  cases l' with
  | nil => have := h.1; simp at this
  | cons y l' =>
   obtain ⟨y', hy, hr⟩ := h.2 0 x (by simp)
   simp at hy
   subst hy
   simp only [veqs, Bool.and_eq_true] at hv ⊢
   refine ⟨?_, ih l' ⟨by have := h.1; simpa using this, fun i z hz => by simpa using h.2 (i + 1) z (by simpa using hz)⟩ hv.2⟩
   cases hr with
   | same hp => exact hv.1
   | ptr hb => simp [veq0]
   | slice hb => simp [veq0]
   | nils hb hc => simp [veq0]
   | _ => simp [veq0] at hv
theorem veq_rn {e : Em} {v v' : Value} (h : RN e v v') (hv : veq v v = true) : veq v' v' = true := by
 cases h with
 | same hp => exact hv
 | ptr hb => simp [veq, veq0]
 | slice hb => simp [veq, veq0]
 | nils hb hc => simp [veq, veq0]
 | agg hs h => exact veqs_rn _ _ (RNs.of_arr hs h) hv
 | _ => simp [veq, veq0] at hv
theorem alook_rn {e : Em} {h H : Heap} {o : Op} {u u' v : Value} (hv : alook T o u h = some v) (hn : HN e h H) (hu : RN e u u') : ∃ v', alook T o u' H = some v' ∧ RN e v v' := by
 unfold alook at hv ⊢
 split at hv
 ·exact aload_rn hv hn hu
 ·obtain ⟨g1, g2⟩ := aconvert_rn hv hn hu; exact ⟨v, g1, .same g2⟩
 ·cases hv
variable {c : Vf}
theorem sv_see (t : Nat) (v : Value) (h : c.s.tm.get t = some v) (hk : SV P T X Q (c.see t v)) : SV P T X Q c := by
 obtain ⟨n, ops, k, l, K, s, hS⟩ := c
 have := st_see t v h
 unfold Vf.see at hk
 rw [← this] at hk
 exact hk
theorem sv_end (he : c.l.isEmpty = true) (hk : SD P T X Q ⟨c.n, .done .normal, c.K, c.s⟩) : SV P T X Q c := fun eS HS hs e H tm' K' hx xs ht hK => aopsV_end he (hk e H tm' K' hx ht hK)
def strictV (c : Vf) : Bool := guardP c.s.tm c.ops (hdO c.l) && ((hdO c.l).op.operands.toList.all (pres c.s.tm) && okB c.s.tm (hdO c.l).op)
theorem big_okV {t : Nat} {e : Em} {tm' : Tr Value} {H : Heap} (ho : okV c.n c.ops c.s c.l t = true) (hs : strictV c = true) (ht : TE e c.s.tm tm') : okV c.n c.ops ⟨tm', H⟩ c.l t = true := by
 unfold strictV at hs
 rw [Bool.and_eq_true] at hs
 have haw := awanted_rn ht hs.1
 unfold okV at ho ⊢
 rw [show awanted c.ops (⟨tm', H⟩ : St).tm (hdO c.l) = awanted c.ops c.s.tm (hdO c.l) from haw]
 exact ho
theorem sv_val (t : Nat) (v : Value) (h1 : Heap) (ho : okV c.n c.ops c.s c.l t = true) (hs : strictV c = true) (ha : aop P T c.s.tm (hdO c.l) c.s.H = some (.val v, h1)) (hq : calm T c.ops c.k = true → actO T (hdO c.l).op = false ∨ (stayB c.hS c.s.H = true ∧ ∀ b, b < c.hS.n → h1.get b = c.s.H.get b))
    (hl : (lookO T (hdO c.l).op && lkat T c.ops c.k) = false) (hk : SV P T X Q (c.put t v h1)) : SV P T X Q c := by
 intro eS HS hS e H tm' K' hx xs ht hK
 have hs' := hs
 unfold strictV at hs'
 simp only [Bool.and_eq_true] at hs'
 obtain ⟨r', H1, e1, g1, g2, g3, g4⟩ := aop_rn ha hx.hn (ht.op hs'.2.1) hs'.2.2
 cases g4 with
 | val hv =>
  refine aopsV_val t _ H H1 (big_okV ho hs ht) g1 rfl (fun hc => (hq hc).elim (fun q => free_up q g1 xs.Hn) fun q => up_big hS xs hx.hn g2 g3 q.2 (stayB_spec q.1)) ?_ (hk eS HS hS e1 H1 _ K' (hx.next X.ok g2 g3) (xs.trans hS g3) ((ht.mono g3.le).put t hv) (KE.mono g3.le hK))
  cases hcl : cls T (hdO c.l).op <;> first | rfl | (simp only [lookO, hcl, Bool.true_and] at hl; rw [hl]; rfl)
theorem look_aop {tm : Tr Value} {o : Oper} {H : Heap} {x : Operand} {u v : Value} (hx0 : lookArg o.op = some x) (k1 : aeval tm x = some u) (k3 : alook T o.op u H = some v) : aop P T tm o H = some (.val v, H) := by
 unfold aop
 cases hop : o.op with
 | load ty a =>
  rw [hop] at hx0 k3
  simp only [lookArg] at hx0
  cases hx0
  simp only [alook] at k3
  simp only [k1, k3, val]
 | convert s d a =>
  rw [hop] at hx0 k3
  simp only [lookArg] at hx0
  cases hx0
  simp only [alook] at k3
  simp only [k1, k3, orVal, val]
 | _ => rw [hop] at hx0; cases hx0
theorem sv_look (t : Nat) (v u : Value) (x : Operand) (ho : okV c.n c.ops c.s c.l t = true) (hs : strictV c = true) (hx0 : lookArg (hdO c.l).op = some x) (hu : aeval c.s.tm x = some u) (hv : alook T (hdO c.l).op u c.s.H = some v) (hvv : veq v v = true) (hlow : LowB c.hS.n u) (hk : SV P T X Q (c.put t v c.s.H)) : SV P T X Q c := by
 have ha := look_aop (P := P) hx0 hu hv
 intro eS HS hS e H tm' K' hx xs ht hK
 have hs' := hs
 unfold strictV at hs'
 simp only [Bool.and_eq_true] at hs'
 have hxm : x ∈ (hdO c.l).op.operands.toList := by
  revert hx0
  generalize (hdO c.l).op = op
  intro hx0
  unfold lookArg at hx0
  split at hx0 <;> cases hx0 <;> simp [Op.operands]
 obtain ⟨u', k1, k2⟩ := ht.op hs'.2.1 x hxm u hu
 obtain ⟨v', k3, k4⟩ := alook_rn hv hx.hn k2
 obtain ⟨r', H1, e1, g1, g2, g3, g4⟩ := aop_rn ha hx.hn (ht.op hs'.2.1) hs'.2.2
 have hlook : aop P T tm' (hdO c.l) H = some (.val v', H) := look_aop hx0 k1 k3
 refine aopsV_get t v' u' x H (big_okV ho hs ht) hx0 k1 rfl k3 (veq_rn k4 hvv) ?_ hlook (hk eS HS hS e H _ K' hx xs (ht.put t k4) hK)
 intro b hb
 have rng : ∀ b0 c0, readsB u b0 → e b0 = some (some c0) → c0 < HS.n := fun b0 c0 hr he => by
  have hlt := hlow b0 hr
  rcases xs.new _ _ he with q | ⟨q, _⟩
  ·exact hS.rng _ _ q
  ·omega
 cases k2 with
 | same hp =>
  have := hlow b hb
  rcases hb with ⟨o, q⟩ | ⟨o, n, cc, q⟩ <;> (rw [q] at hp; simp [plain] at hp)
 | ptr he =>
  rename_i b0 off c0
  rcases hb with ⟨o, q⟩ | ⟨o, n, cc, q⟩
  ·injection q with q; injection q with q; injection q with q _
   subst q
   exact rng b0 _ (.inl ⟨_, rfl⟩) he
  ·cases q
 | slice he =>
  rename_i b0 off c0 n0 cap0
  rcases hb with ⟨o, q⟩ | ⟨o, n, cc, q⟩
  ·cases q
  ·injection q with q _ _; injection q with q; injection q with q _
   subst q
   exact rng b0 _ (.inr ⟨_, _, _, rfl⟩) he
 | _ => rcases hb with ⟨o, q⟩ | ⟨o, n, cc, q⟩ <;> cases q
theorem sv_ask [OrcDat T] (t : Nat) (v : Value) (f : FuncId) (args : Array Value) (ho : okV c.n c.ops c.s c.l t = true) (hs : strictV c = true) (ha : aop P T c.s.tm (hdO c.l) c.s.H = some (.enter f args, c.s.H)) (hv : T.orc f args.toList = some v) (hk : SV P T X Q (c.put t v c.s.H)) : SV P T X Q c := by
 intro eS HS hS e H tm' K' hx xs ht hK
 have hs' := hs
 unfold strictV at hs'
 simp only [Bool.and_eq_true] at hs'
 obtain ⟨r', H1, e1, g1, g2, g3, g4⟩ := aop_rn ha hx.hn (ht.op hs'.2.1) hs'.2.2
 cases g4 with
 | enter hr =>
  rename_i args'
  have hv' : T.orc f args'.toList = some v := by rw [OrcDat.rn inferInstance hr]; exact hv
  have hcl := (OrcDat.dat (T := T) _ _ _ hv).1
  have := enter_heap g1
  subst this
  exact aopsV_ask t v f args' (big_okV ho hs ht) g1 hv' (hk eS HS hS e1 H1 _ K' (hx.next X.ok g2 g3) (xs.trans hS g3) ((ht.mono g3.le).put t (.of_closed hcl)) (KE.mono g3.le hK))
theorem sv_call (t : Nat) (f : FuncId) (args : Array Value) {R : Value → Heap → Prop} {args0 : Array Value} {k : Heap} (hc : SCall P T f args0 k R) (g : Em) (ho : okV c.n c.ops c.s c.l t = true) (hs : strictV c = true)
    (ha : aop P T c.s.tm (hdO c.l) c.s.H = some (.enter f args, c.s.H)) (hg : HN g k c.s.H) (hr : RNs g args0.toList args.toList)
    (hk : ∀ v k1, R v k1 → ∃ w h1, Glue g k k1 c.s.H h1 ∧ RN (g.ext k.n c.s.H.n) v w ∧ (calm T c.ops c.k = true → stayB c.hS c.s.H = true ∧ ∀ b, b < c.hS.n → h1.get b = c.s.H.get b) ∧ SV P T X Q (c.put t w h1)) : SV P T X Q c := by
 intro eS HS hS e H tm' K' hx xs ht hK
 have hs' := hs
 unfold strictV at hs'
 simp only [Bool.and_eq_true] at hs'
 obtain ⟨r', H1, e1, g1, g2, g3, g4⟩ := aop_rn ha hx.hn (ht.op hs'.2.1) hs'.2.2
 cases g4 with
 | enter hr2 =>
  rename_i args'
  have := enter_heap g1
  subst this
  have hx1 := hx.next X.ok g2 g3
  have xs1 := xs.trans hS g3
  have run : ∀ v' H2, (∃ v k1 e2, R v k1 ∧ HN e2 k1 H2 ∧ Ex (g.comp e1) e2 k H1 k1 H2 ∧ RN e2 v v') → ∃ w h1 e3, HN e3 h1 H2 ∧ Ex e1 e3 c.s.H H1 h1 H2 ∧ RN e3 w v' ∧ (calm T c.ops c.k = true → stayB c.hS c.s.H = true ∧ ∀ b, b < c.hS.n → h1.get b = c.s.H.get b) ∧ SV P T X Q (c.put t w h1) := by
   rintro v' H2 ⟨v, k1, e2, r1, r2, r3, r4⟩
   obtain ⟨w, h1, gl, rw_, hcm, hd⟩ := hk v k1 r1
   obtain ⟨e3, s1, s2, s3⟩ := gl.run hg g2 r2 r3
   exact ⟨w, h1, e3, s1, s2, s3 _ _ _ rw_ r4, hcm, hd⟩
  refine aopsV_call t f args' H1 (big_okV ho hs ht) g1 rfl (hc (g.comp e1) args' H1 (hg.comp g2) (hr.comp hr2)) (fun hcm v' H2 hh => ?_) fun v' H2 hh => ?_
  ·obtain ⟨w, h1, e3, s1, s2, s3, s4, _⟩ := run v' H2 hh
   exact up_big hS xs1 hx1.hn s1 s2 (s4 hcm).2 (stayB_spec (s4 hcm).1)
  ·obtain ⟨w, h1, e3, s1, s2, s3, _, hd⟩ := run v' H2 hh
   exact hd eS HS hS e3 H2 _ K' (hx1.next X.ok s1 s2) (xs1.trans hS s2) (((ht.mono g3.le).mono s2.le).put t s3) (KE.mono s2.le (KE.mono g3.le hK))
theorem stepV_sound [OrcDat T] {c' : Vf} (h : stepV P T c = some c') (hd : SV P T X Q c') : SV P T X Q c := by
 intro eS HS hS e H tm' K' hx xs ht hK
 obtain ⟨n, ops, k, l, K, s, h0⟩ := c
 simp only at hS hx xs ht hK ⊢
 unfold stepV at h
 simp only at h
 cases l with
 | nil => cases h
 | cons o l =>
  simp only at h
  cases hst : strictO s.tm ops o
  ·rw [hst] at h; cases h
  rw [hst] at h
  simp only [cond_true] at h
  unfold strictO at hst
  simp only [Bool.and_eq_true] at hst
  obtain ⟨hg, hst⟩ := hst
  have haw := awanted_rn ht hg
  have fin : ∀ {v v' : Value} {h1 H1 : Heap} {e1 : Em}, finV ⟨n, ops, k, o :: l, K, s, h0⟩ o v h1 = some c' → HN e1 h1 H1 → Ex e e1 s.H H h1 H1 → RN e1 v v' → APut n o.dst v' tm' H1 (AOpsV P T HS.n n ops (k + 1) l fun s' => Den P T ⟨n, .done .normal, K', s'⟩ Q) := by
   intro v v' h1 H1 e1 hf g2 g3 hv
   unfold finV at hf
   simp only at hf
   cases hdst : o.dst with
   | none =>
    rw [hdst] at hf
    simp only [dput] at hf
    cases hf
    exact aput_k (tm' := tm') rfl (hd eS HS hS e1 H1 tm' K' (hx.next X.ok g2 g3) (xs.trans hS g3) (ht.mono g3.le) (KE.mono g3.le hK))
   | some d =>
    rw [hdst] at hf
    simp only [dput] at hf
    cases hb : d.blt n
    ·rw [hb] at hf; cases hf
    ·rw [hb] at hf
     simp only [cond_true] at hf
     cases hf
     exact aput_k (tm' := tm'.put d (some v')) (by simp only [dput, hb, cond_true]) (hd eS HS hS e1 H1 _ K' (hx.next X.ok g2 g3) (xs.trans hS g3) ((ht.mono g3.le).put d hv) (KE.mono g3.le hK))
  have goal : AStepV P T HS.n n ops k o (AOpsV P T HS.n n ops (k + 1) l fun s' => Den P T ⟨n, .done .normal, K', s'⟩ Q) ⟨tm', H⟩ := by
   unfold AStepV
   simp only [haw]
   cases hw : awanted ops s.tm o
   ·rw [hw] at h
    simp only [cond_false] at h ⊢
    exact fin h hx.hn (Ex.refl _ _ _) (.of_closed rfl)
   ·rw [hw] at h hst
    simp only [cond_true, Bool.not_true, Bool.false_or, Bool.and_eq_true] at h hst ⊢
    split at h
    ·rename_i v h1 q
     obtain ⟨r', H1, e1, g1, g2, g3, g4⟩ := aop_rn q hx.hn (ht.op hst.1) hst.2
     cases g4 with
     | val hv =>
      cases hb : ((!actO T o.op || !calm T ops k) && !(lookO T o.op && lkat T ops k))
      ·rw [hb] at h; cases h
      rw [hb] at h
      simp only [cond_true] at h
      simp only [Bool.and_eq_true, Bool.or_eq_true, Bool.not_eq_true'] at hb
      simp only [g1]
      refine ⟨fun hc => ?_, fun hlk h5 => ?_, fin h g2 g3 hv⟩
      ·rcases hb.1 with q1 | q1
       ·exact free_up q1 g1 xs.Hn
       ·rw [hc] at q1; cases q1
      ·exfalso
       have := hb.2
       simp only [lookO, hlk, h5, Bool.and_self] at this
       cases this
    ·rename_i h1 q
     obtain ⟨r', H1, e1, g1, g2, g3, g4⟩ := aop_rn q hx.hn (ht.op hst.1) hst.2
     cases g4 with
     | skip =>
      cases hb : calm T ops k
      ·rw [hb] at h
       simp only [Bool.not_false, cond_true] at h
       simp only [g1]
       exact ⟨fun hc => (by cases hc), fin h g2 g3 (.of_closed rfl)⟩
      ·rw [hb] at h; cases h
    ·rename_i f args h1 q
     obtain ⟨r', H1, e1, g1, g2, g3, g4⟩ := aop_rn q hx.hn (ht.op hst.1) hst.2
     cases g4 with
     | enter hr =>
      rename_i args'
      have := enter_heap g1
      subst this
      split at h
      ·rename_i v q2
       have hv' : T.orc f args'.toList = some v := by rw [OrcDat.rn inferInstance hr]; exact q2
       simp only [g1]
       exact ⟨fun _ => Up.refl _, acall_orc hv' ⟨fun _ => Up.refl _, fin h g2 g3 (.of_closed (OrcDat.dat (T := T) _ _ _ q2).1)⟩⟩
      ·cases h
    ·cases h
  exact aopsV_cons goal
theorem stepP_sound [OrcDat T] {c' : Vf} (h : stepP P T c = some c') (hd : SVp P T X Q c') : SVp P T X Q c := by
 intro e H tm' K' hx ht hK
 unfold stepP at h
 cases hcl : (calm T c.ops c.k || lkat T c.ops c.k)
 case true => rw [hcl] at h; cases h
 rw [hcl] at h
 simp only [cond_false] at h
 rw [Bool.or_eq_false_iff] at hcl
 obtain ⟨hcm, hlk⟩ := hcl
 obtain ⟨n, ops, k, l, K, s, h0⟩ := c
 simp only at hx ht hK hcm hlk ⊢
 unfold stepV at h
 simp only at h
 cases l with
 | nil => cases h
 | cons o l =>
  simp only at h
  cases hst : strictO s.tm ops o
  ·rw [hst] at h; cases h
  rw [hst] at h
  simp only [cond_true] at h
  unfold strictO at hst
  simp only [Bool.and_eq_true] at hst
  obtain ⟨hg, hst⟩ := hst
  have haw := awanted_rn ht hg
  have fin : ∀ {v v' : Value} {h1 H1 : Heap} {e1 : Em}, finV ⟨n, ops, k, o :: l, K, s, h0⟩ o v h1 = some c' → HN e1 h1 H1 → Ex e e1 s.H H h1 H1 → RN e1 v v' → ∃ lo, APut n o.dst v' tm' H1 (AOpsV P T lo n ops (k + 1) l fun s' => Den P T ⟨n, .done .normal, K', s'⟩ Q) := by
   intro v v' h1 H1 e1 hf g2 g3 hv
   unfold finV at hf
   simp only at hf
   cases hdst : o.dst with
   | none =>
    rw [hdst] at hf
    simp only [dput] at hf
    cases hf
    obtain ⟨lo, hlo⟩ := hd e1 H1 tm' K' (hx.next X.ok g2 g3) (ht.mono g3.le) (KE.mono g3.le hK)
    exact ⟨lo, aput_k (tm' := tm') rfl hlo⟩
   | some d =>
    rw [hdst] at hf
    simp only [dput] at hf
    cases hb : d.blt n
    ·rw [hb] at hf; cases hf
    ·rw [hb] at hf
     simp only [cond_true] at hf
     cases hf
     obtain ⟨lo, hlo⟩ := hd e1 H1 (tm'.put d (some v')) K' (hx.next X.ok g2 g3) ((ht.mono g3.le).put d hv) (KE.mono g3.le hK)
     exact ⟨lo, aput_k (tm' := tm'.put d (some v')) (by simp only [dput, hb, cond_true]) hlo⟩
  suffices ∃ lo, AStepV P T lo n ops k o (AOpsV P T lo n ops (k + 1) l fun s' => Den P T ⟨n, .done .normal, K', s'⟩ Q) ⟨tm', H⟩ by
   obtain ⟨lo, hlo⟩ := this
   exact ⟨lo, aopsV_cons hlo⟩
  unfold AStepV
  simp only [haw]
  cases hw : awanted ops s.tm o
  ·rw [hw] at h
   simp only [cond_false] at h ⊢
   exact fin h hx.hn (Ex.refl _ _ _) (.of_closed rfl)
  ·rw [hw] at h hst
   simp only [cond_true, Bool.not_true, Bool.false_or, Bool.and_eq_true] at h hst ⊢
   split at h
   ·rename_i v h1 q
    obtain ⟨r', H1, e1, g1, g2, g3, g4⟩ := aop_rn q hx.hn (ht.op hst.1) hst.2
    cases g4 with
    | val hv =>
     cases hb : ((!actO T o.op || !calm T ops k) && !(lookO T o.op && lkat T ops k))
     ·rw [hb] at h; cases h
     rw [hb] at h
     simp only [cond_true] at h
     simp only [g1]
     obtain ⟨lo, hlo⟩ := fin h g2 g3 hv
     exact ⟨lo, calm_no hcm, fun _ h5 => (by rw [hlk] at h5; cases h5), hlo⟩
   ·rename_i h1 q
    obtain ⟨r', H1, e1, g1, g2, g3, g4⟩ := aop_rn q hx.hn (ht.op hst.1) hst.2
    cases g4 with
    | skip =>
     rw [hcm] at h
     simp only [Bool.not_false, cond_true] at h
     simp only [g1]
     obtain ⟨lo, hlo⟩ := fin h g2 g3 (.of_closed rfl)
     exact ⟨lo, calm_no hcm, hlo⟩
   ·rename_i f args h1 q
    obtain ⟨r', H1, e1, g1, g2, g3, g4⟩ := aop_rn q hx.hn (ht.op hst.1) hst.2
    cases g4 with
    | enter hr =>
     rename_i args'
     have := enter_heap g1
     subst this
     split at h
     ·rename_i v q2
      have hv' : T.orc f args'.toList = some v := by rw [OrcDat.rn inferInstance hr]; exact q2
      simp only [g1]
      obtain ⟨lo, hlo⟩ := fin h g2 g3 (.of_closed (OrcDat.dat (T := T) _ _ _ q2).1)
      exact ⟨lo, fun _ => Up.refl _, acall_orc hv' ⟨fun _ => Up.refl _, hlo⟩⟩
     ·cases h
   ·cases h
theorem svp_go [OrcDat T] (k : Nat) (h : SVp P T X Q (goP P T k c)) : SVp P T X Q c := by
 induction k generalizing c with
 | zero => exact h
 | succ k ih =>
  cases q : stepP P T c with
  | none => simp only [goP, q] at h; exact h
  | some c' => simp only [goP, q] at h; exact stepP_sound q (ih h)
theorem svp_see (t : Nat) (v : Value) (h : c.s.tm.get t = some v) (hk : SVp P T X Q (c.see t v)) : SVp P T X Q c := by
 obtain ⟨n, ops, k, l, K, s, hS⟩ := c
 have := st_see t v h
 unfold Vf.see at hk
 rw [← this] at hk
 exact hk
theorem svp_line (hk : SV P T X Q ⟨c.n, c.ops, c.k, c.l, c.K, c.s, c.s.H⟩) : SVp P T X Q c := fun e H tm' K' hx ht hK => ⟨H.n, hk e H hx.hn e H tm' K' hx (Ex.refl _ _ _) ht hK⟩
theorem sd_drawP {d : Cf} (h : atD d = true) (hk : SVp P T X Q ⟨d.n, opsD d, 0, (opsD d).toList, d.K, d.s, d.s.H⟩) : SD P T X Q d := by
 intro e H tm' K' hx ht hK
 have h' : atD ⟨d.n, d.p, K', ⟨tm', H⟩⟩ = true := by unfold atD at h ⊢; exact h
 obtain ⟨lo, hlo⟩ := hk e H tm' K' hx ht hK
 exact cf_drawV lo h' hlo
theorem sv_go [OrcDat T] (k : Nat) (h : SV P T X Q (goV P T k c)) : SV P T X Q c := by
 induction k generalizing c with
 | zero => exact h
 | succ k ih =>
  cases q : stepV P T c with
  | none => simp only [goV, q] at h; exact h
  | some c' => simp only [goV, q] at h; exact stepV_sound q (ih h)
end
end Go.Ev
end
section
namespace Go.Ev
open Go
set_option linter.unusedVariables false
set_option linter.unusedSimpArgs false
def tab {α : Type} (enc : α → List Value) (l : List α) : List Value := l.flatMap enc
section
variable {α : Type} {enc : α → List Value} {s : Nat}
theorem tab_cons (a : α) (l : List α) : tab enc (a :: l) = enc a ++ tab enc l := by simp [tab]
theorem tab_app (l m : List α) : tab enc (l ++ m) = tab enc l ++ tab enc m := by simp [tab]
theorem tab_snoc (l : List α) (a : α) : tab enc l ++ enc a = tab enc (l ++ [a]) := by simp [tab]
theorem tab_len (hs : ∀ a, (enc a).length = s) (l : List α) : (tab enc l).length = l.length * s := by
 induction l with
 | nil => simp [tab]
 | cons a l ih => rw [tab_cons, List.length_append, ih, hs, List.length_cons, Nat.add_mul, Nat.one_mul, Nat.add_comm]
theorem tab_plain (hp : ∀ a, (enc a).all plain = true) (l : List α) : (tab enc l).all plain = true := by
 induction l with
 | nil => rfl
 | cons a l ih => rw [tab_cons, List.all_append, hp, ih]; rfl
theorem tab_drop (hs : ∀ a, (enc a).length = s) : ∀ (l : List α) (k : Nat), (tab enc l).drop (k * s) = tab enc (l.drop k) := by
 intro l
 induction l with
 | nil => intro k; simp [tab]
 | cons a l ih =>
  intro k
  cases k with
  | zero => simp
  | succ k =>
   rw [tab_cons, List.drop_succ_cons, ← ih k, show (k + 1) * s = (enc a).length + k * s by rw [hs, Nat.add_mul, Nat.one_mul, Nat.add_comm], List.drop_length_add_append]
theorem tab_row (hs : ∀ a, (enc a).length = s) {l : List α} {k : Nat} {a : α} (h : l[k]? = some a) : ((tab enc l).drop (0 + k * s)).take s = enc a := by
 rw [Nat.zero_add, tab_drop hs]
 obtain ⟨hk, rfl⟩ := List.getElem?_eq_some_iff.1 h
 rw [List.drop_eq_getElem_cons hk, tab_cons]
 conv => lhs; arg 1; rw [← hs l[k]]
 rw [List.take_left]
theorem tab_cell (hs : ∀ a, (enc a).length = s) {l : List α} {k j : Nat} {a : α} {v : Value} (h : l[k]? = some a) (hj : (enc a)[j]? = some v) : (tab enc l)[0 + k * s + j]? = some v := by
 have hjs : j < s := by rw [← hs a]; exact (List.getElem?_eq_some_iff.1 hj).1
 have := tab_row hs h
 rw [← this, List.getElem?_take, if_pos hjs, List.getElem?_drop] at hj
 exact hj
theorem tab_set (hs : ∀ a, (enc a).length = s) : ∀ {l : List α} {k j : Nat} {a a' : α} {v : Value}, l[k]? = some a → j < s → (enc a).set j v = enc a' → (tab enc l).set (0 + k * s + j) v = tab enc (l.set k a') := by
 intro l
 induction l with
 | nil => intro k j a a' v h; simp at h
 | cons b l ih =>
  intro k j a a' v h hj he
  cases k with
  | zero =>
   simp at h; subst h
   rw [tab_cons, List.set_cons_zero, tab_cons, ← he, List.set_append_left _ _ (by rw [hs]; omega)]
   congr 2; omega
  | succ k =>
   rw [tab_cons, List.set_cons_succ, tab_cons, List.set_append_right _ _ (by rw [hs, Nat.add_mul, Nat.one_mul]; omega), ← ih (k := k) (by simpa using h) hj he]
   congr 2
   rw [hs, Nat.add_mul, Nat.one_mul]; omega
end
theorem tab_one {α : Type} {enc : α → List Value} {v : Value} {a : α} (h : enc a = [v]) (n : Nat) : zerosOf [v] n = tab enc (List.replicate n a) := by
 show List.replicate n v = _
 induction n with
 | zero => rfl
 | succ n ih => rw [List.replicate_succ, List.replicate_succ, tab_cons, h, ih]; rfl
section
variable {T : Tab} {H : Heap} {α : Type} {enc : α → List Value} {s b : Nat} {l : List α} {e : TypeId} {ro : Bool} {ty : TypeId} {k : Nat} {a : α}
theorem ld_row (hs : ∀ a, (enc a).length = s) (g : H.get b = some ⟨tab enc l, e, ro⟩) (hr : rowB T ty = true) (hz : T.size ty = some s) (ha : l[k]? = some a) : aload T ty (.pointer (some ⟨b, 0 + k * s, none⟩)) H = some (.agg (enc a).toArray) :=
 (aload_at g).trans (aloadC_rowB hr hz (hs a) (tab_row hs ha))
theorem ld_cell (hs : ∀ a, (enc a).length = s) (g : H.get b = some ⟨tab enc l, e, ro⟩) (hr : cellB T ty = true) (hz : T.size ty = some 1) (ha : l[k]? = some a) {j : Nat} {v : Value} (hj : (enc a)[j]? = some v) : aload T ty (.pointer (some ⟨b, 0 + k * s + j, none⟩)) H = some v :=
 (aload_at g).trans (aloadC_cellB hr hz (tab_cell hs ha hj))
theorem st_cell (hs : ∀ a, (enc a).length = s) (hz : T.size ty = some 1) {v : Value} (hv : Ev.one v = true) (ha : l[k]? = some a) {j : Nat} {a' : α} (hj : (j.blt s) = true) (he : (enc a).set j v = enc a') : astoreC T ty (tab enc l) (0 + k * s + j) v = some (tab enc (l.set k a')) := by
 have hjs : j < s := Nat.le_of_ble_eq_true hj
 have hk := (List.getElem?_eq_some_iff.1 ha).1
 rw [astoreC_one hz (one_cells hv) hv, tab_set hs ha hjs he]
 rw [tab_len hs]
 have : (k + 1) * s ≤ l.length * s := Nat.mul_le_mul_right _ hk
 rw [Nat.add_mul, Nat.one_mul] at this
 omega
end
theorem veqs_c {x : Value} {a : List Value} (h : veq x x = true) (t : veqs a a = true) (hx : veq x x = veq0 x x := by rfl) : veqs (x :: a) (x :: a) = true := by unfold veqs; rw [← hx, h, t]; rfl
theorem orcDat_none {T : Tab} (h : ∀ f l, T.orc f l = none) : OrcDat T := ⟨fun f l v q => by rw [h] at q; cases q⟩
theorem orcDat_add {T : Tab} (h : OrcDat T) (f0 : FuncId) (sp : List Value → Option Value) (hs : ∀ l v, sp l = some v → closed v = true ∧ l.all dat = true) : OrcDat { T with orc := addOrc T.orc f0 sp } := ⟨fun f l v q => by
 have q : addOrc T.orc f0 sp f l = some v := q
 unfold addOrc at q
 cases hb : Nat.beq f f0
 ·rw [hb] at q; exact h.dat f l v q
 ·rw [hb] at q; exact hs l v q⟩
section
variable {P : Program} {T : Tab} {X : Cx} {Q : Xt → St → Prop} {c : Cf}
theorem sd_run [OrcDat T] (k : Nat) (h : SD P T X Q (goS P T k c)) : SD P T X Q c := sd_go X.ok inferInstance k h
theorem sd_wf (h : (∀ b o, c.s.H.get b = some o → b < c.s.H.n) → SD P T X Q c) : SD P T X Q c := fun e H tm' K' hx => h hx.hn.wf e H tm' K' hx
def ldOf (c : Cf) : Option (TypeId × Value) := match (opC c).op with
 | .load ty a => (match aeval c.s.tm a with | some u => some (ty, u) | none => none)
 | _ => none
def stArg (c : Cf) : Option (TypeId × Value × Value) := match (opC c).op with
 | .store ty a x => (match aeval c.s.tm a, aeval c.s.tm x with | some u, some v => some (ty, u, v) | _, _ => none)
 | _ => none
def apOf (c : Cf) : Option (TypeId × TypeId × Value × Value) := match (opC c).op with
 | .call cl => (match cl.callee, cl.argTypes.toList, aevals c.s.tm cl.args.toList with | .builtin .append, [st, xt], some [s, x] => some (st, xt, s, x) | _, _, _ => none)
 | _ => none
theorem sd_ld (t : Nat) (v : Value) (ty : TypeId) (p : Value) (ho : okOp c t = true) (hs : strictC c = true) (h1 : ldOf c = some (ty, p)) (hl : aload T ty p c.s.H = some v) (hk : SD P T X Q (c.put t v c.s.H)) : SD P T X Q c := by
 refine sd_val t v c.s.H ho hs ?_ hk
 unfold ldOf at h1
 unfold aop
 split at h1
 ·rename_i ty' a hop
  split at h1
  ·rename_i u hu; cases h1; simp only [hop, hu, hl, val]
  ·cases h1
 ·cases h1
theorem sd_ix (t : Nat) (v : Value) (i len : Nat) (ho : okOp c t = true) (hs : strictC c = true) (h1 : aop P T c.s.tm (opC c) c.s.H = val (bif i.blt len then some v else none) c.s.H) (hi : i < len) (hk : SD P T X Q (c.put t v c.s.H)) : SD P T X Q c := by
 refine sd_val t v c.s.H ho hs ?_ hk
 rw [h1, show i.blt len = true from (by rw [blt_dec]; simp [hi])]
 rfl
theorem sd_st (ty : TypeId) (b off : Nat) (x : Value) (l : List Value) {cells : List Value} {e : TypeId} (ho : okNo c = true) (hs : strictC c = true) (h1 : stArg c = some (ty, .pointer (some ⟨b, off, none⟩), x)) (g : c.s.H.get b = some ⟨cells, e, false⟩) (h : astoreC T ty cells off x = some l)
    (hk : SD P T X Q (c.skp (c.s.H.put b ⟨l, e, false⟩))) : SD P T X Q c := by
 refine sd_skip _ ho hs ?_ hk
 unfold stArg at h1
 unfold aop
 split at h1
 ·rename_i ty' a y hop
  split at h1
  ·rename_i u v hu hv; cases h1; simp only [hop, hu, hv, astore_to g h, skp]
  ·cases h1
 ·cases h1
theorem sd_ap (t : Nat) (st xt : TypeId) (s x v : Value) (h1 : Heap) (ho : okOp c t = true) (hs : strictC c = true) (hA : apOf c = some (st, xt, s, x)) (ha : aappend T st xt s x c.s.H = some (v, h1)) (hk : SD P T X Q (c.put t v h1)) : SD P T X Q c := by
 refine sd_val t v h1 ho hs ?_ hk
 unfold apOf at hA
 unfold aop
 split at hA
 ·rename_i cl hop
  split at hA
  ·rename_i st' xt' s' x' e1 e2 e3
   cases hA
   simp only [hop, acall, e1, e2, e3, ha, val2]
  ·cases hA
 ·cases hA
def apTab (T : Tab) (st xt : TypeId) : Option (TypeId × Nat × Nat) := match T.under st, T.under xt with
 | some (.slice e), some xd => bif isIntD xd then none else (match T.size e, T.bytes e, T.zero e with | some (s + 1), some (b + 1), some _ => some (e, s, b) | _, _, _ => none)
 | _, _ => none
theorem apTab_spec {st xt e : TypeId} {s0 by_ : Nat} (h : apTab T st xt = some (e, s0, by_)) : T.under st = some (.slice e) ∧ (∃ xd, T.under xt = some xd ∧ isIntD xd = false) ∧ T.size e = some (s0 + 1) ∧ T.bytes e = some (by_ + 1) ∧ ∃ z, T.zero e = some z := by
 unfold apTab at h
 split at h
 ·rename_i e' xd h1 h2
  cases hi : isIntD xd
  ·rw [hi] at h
   simp only [cond_false] at h
   split at h
   ·rename_i s b z h3 h4 h5; cases h; exact ⟨h1, ⟨xd, h2, hi⟩, h3, h4, z, h5⟩
   ·cases h
  ·rw [hi] at h; cases h
 ·cases h
theorem sd_grow (t : Nat) (st xt e : TypeId) (s0 by_ b len n nb : Nat) (x : Value) (xs new ys : List Value) (ho : okOp c t = true) (hs : strictC c = true) (hA : apOf c = some (st, xt, .slice (some ⟨b, 0, none⟩) len (unk + (s0 + 1)), x)) (hT : apTab T st xt = some (e, s0, by_))
    (g : c.s.H.get b = some ⟨xs, e, false⟩) (hxs : xs.length = len * (s0 + 1)) (hsrc : asrc (s0 + 1) x c.s.H = some (n, new)) (hone : new.all Ev.one = true) (hn : 0 < n) (hne : (blockOf x == some b) = false) (hbig : (len + n) * (by_ + 1) ≤ 140737488355328) (hnb : c.s.H.n = nb) (hy : xs ++ new = ys)
    (hk : SD P T X Q (c.put t (.slice (some ⟨nb, 0, none⟩) (len + n) (unk + (s0 + 1))) ((c.s.H.kill b).push ⟨ys, e, false⟩))) : SD P T X Q c := by
 obtain ⟨k1, ⟨xd, k2, k3⟩, k4, k5, z, k6⟩ := apTab_spec hT
 subst hnb hy
 exact sd_ap t st xt _ x _ _ ho hs hA (aappend_grow k1 k2 k3 k4 k5 k6 g hxs hsrc hone hn (by simpa using hne) hbig) hk
theorem sd_first (t : Nat) (st xt e : TypeId) (s0 by_ n nb : Nat) (x : Value) (new ys : List Value) (ho : okOp c t = true) (hs : strictC c = true) (hA : apOf c = some (st, xt, .slice none 0 0, x)) (hT : apTab T st xt = some (e, s0, by_))
    (hsrc : asrc (s0 + 1) x c.s.H = some (n, new)) (hn : 0 < n) (hbig : n * (by_ + 1) ≤ 140737488355328) (hnb : c.s.H.n = nb) (hy : new = ys)
    (hk : SD P T X Q (c.put t (.slice (some ⟨nb, 0, none⟩) n (unk + (s0 + 1))) (c.s.H.push ⟨ys, e, false⟩))) : SD P T X Q c := by
 obtain ⟨k1, ⟨xd, k2, k3⟩, k4, k5, z, k6⟩ := apTab_spec hT
 subst hnb hy
 exact sd_ap t st xt _ x _ _ ho hs hA (aappend_nil k1 k2 k3 k4 k5 k6 hsrc hn hbig) hk
theorem asrc_tab {α : Type} {enc : α → List Value} {s b n cap : Nat} (hs : ∀ a, (enc a).length = s) {l : List α} {H : Heap} {e : TypeId} {ro : Bool} (g : H.get b = some ⟨tab enc l, e, ro⟩) (hn : n = l.length) : asrc s (.slice (some ⟨b, 0, none⟩) n cap) H = some (n, tab enc l) := by
 subst hn
 exact asrc_blk g (by rw [List.drop_zero, List.take_of_length_le]; rw [tab_len hs]; exact Nat.le_refl _) (tab_len hs l)
def mkOf (c : Cf) : Option (TypeId × Value × Value) := match (opC c).op with
 | .makeSlice t l k => (match aeval c.s.tm l, aeval c.s.tm k with | some u, some v => some (t, u, v) | _, _ => none)
 | _ => none
def mkTab (T : Tab) (t : TypeId) : Option (TypeId × Nat × List Value) := match T.under t with
 | some (.slice e) => (match T.bytes e, T.size e, T.zero e with | some b, some (_ + 1), some z => bif closed z then some (e, b, z.cells.toList) else none | _, _, _ => none)
 | _ => none
theorem amake_n {t e : TypeId} {by_ n : Nat} {z : List Value} {k1 k2 : IntKind} {H : Heap} (h : mkTab T t = some (e, by_, z)) (h1 : by_ * n ≤ 140737488355328) (h2 : n ≤ 4611686018427387904) : amakeSlice T t (.int k1 (n : Int)) (.int k2 (n : Int)) H = some (.slice (some ⟨H.n, 0, none⟩) n n, H.push ⟨zerosOf z n, e, false⟩) := by
 unfold mkTab at h
 split at h
 ·rename_i e' hu
  split at h
  ·rename_i b s z' hb hs hz
   cases hc : closed z'
   ·rw [hc] at h; cases h
   ·rw [hc] at h
    cases h
    have e1 : n.ble n = true := Nat.ble_eq_true_of_le (Nat.le_refl _)
    have e2 : (by_ * n).ble 140737488355328 = true := Nat.ble_eq_true_of_le h1
    have e3 : n.ble 4611686018427387904 = true := Nat.ble_eq_true_of_le h2
    unfold amakeSlice
    have e4 : ∀ k : IntKind, nats (.int k (n : Int)) = some n := fun _ => rfl
    simp only [hu, e4, hb, hs, hz, e1, e2, e3, hc, Bool.and_self, cond_true]
  ·cases h
 ·cases h
theorem sd_make (t : Nat) (ty e : TypeId) (by_ n nb : Nat) (k1 k2 : IntKind) (z ys : List Value) (ho : okOp c t = true) (hs : strictC c = true) (hA : mkOf c = some (ty, .int k1 (n : Int), .int k2 (n : Int))) (hT : mkTab T ty = some (e, by_, z)) (h1 : by_ * n ≤ 140737488355328) (h2 : n ≤ 4611686018427387904) (hnb : c.s.H.n = nb) (hy : zerosOf z n = ys)
    (hk : SD P T X Q (c.put t (.slice (some ⟨nb, 0, none⟩) n n) (c.s.H.push ⟨ys, e, false⟩))) : SD P T X Q c := by
 subst hnb hy
 refine sd_val t _ _ ho hs ?_ hk
 unfold mkOf at hA
 unfold aop
 split at hA
 ·rename_i ty' l k hop
  split at hA
  ·rename_i u v hu hv; cases hA; simp only [hop, hu, hv, amake_n hT h1 h2, val2]
  ·cases hA
 ·cases hA
theorem sd_callp (t : Nat) (f : FuncId) (args : Array Value) {R : Value → Heap → Prop} {args0 : Array Value} {l : List (Option Ob)} (hc : SCall P T f args0 (hq l) R) (g : List (Option Nat)) (ho : okOp c t = true) (hs : strictC c = true)
    (ha : aop P T c.s.tm (opC c) c.s.H = some (.enter f args, c.s.H)) (hg : HN (emOf g) (hq l) c.s.H) (hr : rnG (rn2 (emOf g)) args0.toList = some args.toList)
    (hk : ∀ v k1, R v k1 → k1 = hq l ∧ ∃ w, rn2 ((emOf g).ext l.length c.s.H.n) v = some w ∧ SD P T X Q (c.put t w c.s.H)) : SD P T X Q c :=
 sd_wf fun hwf => sd_call t f args hc (emOf g) ho hs ha hg (rnG_sound rn2_sound _ _ hr) fun v k1 h => by
  obtain ⟨rfl, w, h1, h2⟩ := hk v k1 h
  exact ⟨w, c.s.H, Glue.refl hg hwf, rn2_sound _ _ h1, h2⟩
section
variable {c : Vf}
theorem sv_run [OrcDat T] (k : Nat) (h : SV P T X Q (goV P T k c)) : SV P T X Q c := sv_go k h
def ldV (c : Vf) : Option (TypeId × Value) := match (hdO c.l).op with
 | .load ty a => (match aeval c.s.tm a with | some u => some (ty, u) | none => none)
 | _ => none
theorem sv_ld (t : Nat) (v : Value) (ty : TypeId) (p : Value) (ho : okV c.n c.ops c.s c.l t = true) (hs : strictV c = true) (h1 : ldV c = some (ty, p)) (hl : aload T ty p c.s.H = some v) (hn : (lookO T (hdO c.l).op && lkat T c.ops c.k) = false) (hk : SV P T X Q (c.put t v c.s.H)) : SV P T X Q c := by
 refine sv_val t v c.s.H ho hs ?_ (fun _ => .inl (by
  unfold ldV at h1
  split at h1
  ·rename_i hop; simp only [actO, cls, hop]
  ·cases h1)) hn hk
 unfold ldV at h1
 unfold aop
 split at h1
 ·rename_i ty' a hop
  split at h1
  ·rename_i u hu; cases h1; simp only [hop, hu, hl, val]
  ·cases h1
 ·cases h1
theorem sv_rd (t : Nat) (v : Value) (ty : TypeId) (b off : Nat) (ho : okV c.n c.ops c.s c.l t = true) (hs : strictV c = true) (h1 : ldV c = some (ty, .pointer (some ⟨b, off, none⟩))) (hl : aload T ty (.pointer (some ⟨b, off, none⟩)) c.s.H = some v) (hvv : veq v v = true) (hb : b.blt c.hS.n = true) (hk : SV P T X Q (c.put t v c.s.H)) : SV P T X Q c := by
 unfold ldV at h1
 split at h1
 ·rename_i ty' a hop
  split at h1
  ·rename_i u hu
   cases h1
   refine sv_look t v _ a ho hs (by rw [hop]; rfl) hu (by rw [hop]; exact hl) hvv (lowB_ptr (Nat.le_of_ble_eq_true hb)) hk
  ·cases h1
 ·cases h1
theorem sv_ix (t : Nat) (v : Value) (i len : Nat) (ho : okV c.n c.ops c.s c.l t = true) (hs : strictV c = true) (h1 : aop P T c.s.tm (hdO c.l) c.s.H = val (bif i.blt len then some v else none) c.s.H) (hi : i < len) (hna : actO T (hdO c.l).op = false) (hn : (lookO T (hdO c.l).op && lkat T c.ops c.k) = false) (hk : SV P T X Q (c.put t v c.s.H)) : SV P T X Q c := by
 refine sv_val t v c.s.H ho hs ?_ (fun _ => .inl hna) hn hk
 rw [h1, show i.blt len = true from (by rw [blt_dec]; simp [hi])]
 rfl
theorem sv_wf (h : (∀ b o, c.s.H.get b = some o → b < c.s.H.n) → SV P T X Q c) : SV P T X Q c := fun eS HS hS e H tm' K' hx => h hx.hn.wf eS HS hS e H tm' K' hx
theorem sv_callp (t : Nat) (f : FuncId) (args : Array Value) {R : Value → Heap → Prop} {args0 : Array Value} {l : List (Option Ob)} (hc : SCall P T f args0 (hq l) R) (g : List (Option Nat)) (ho : okV c.n c.ops c.s c.l t = true) (hs : strictV c = true)
    (ha : aop P T c.s.tm (hdO c.l) c.s.H = some (.enter f args, c.s.H)) (hg : HN (emOf g) (hq l) c.s.H) (hr : rnG (rn2 (emOf g)) args0.toList = some args.toList) (hst : (!calm T c.ops c.k || stayB c.hS c.s.H) = true)
    (hk : ∀ v k1, R v k1 → k1 = hq l ∧ ∃ w, rn2 ((emOf g).ext l.length c.s.H.n) v = some w ∧ SV P T X Q (c.put t w c.s.H)) : SV P T X Q c :=
 sv_wf fun hwf => sv_call t f args hc (emOf g) ho hs ha hg (rnG_sound rn2_sound _ _ hr) fun v k1 h => by
  obtain ⟨rfl, w, h1, h2⟩ := hk v k1 h
  exact ⟨w, c.s.H, Glue.refl hg hwf, rn2_sound _ _ h1, fun hc => ⟨by rw [hc] at hst; exact hst, fun _ _ => rfl⟩, h2⟩
end
theorem SCall.data {f : FuncId} {args : Array Value} {v : Value} (hc : SCall P T f args (hq []) fun r h => r = v ∧ h = hq []) (ha : args.toList.all closed = true) (hv : closed v = true) : ACall P T f args ⟨.lf, 0⟩ fun r _ => r = v :=
 hc.at_ (fun _ => none) ⟨fun b o h => (by simp [hq_get] at h), fun b x h => (by cases h), fun b c h => (by cases h), fun b c o h => (by simp [hq_get] at h), fun b o h => (by simp [hq_get] at h), fun b1 b2 c h => (by cases h)⟩
  ⟨rfl, fun i x hx => ⟨x, hx, .of_closed (List.all_eq_true.1 ha x (List.mem_of_getElem? hx))⟩⟩ fun w h1 e1 v' H1 h _ _ hr => by
   rw [h.1] at hr
   exact hr.closed_eq hv
end
end Go.Ev
end
section
namespace Go.Ev
open Go Go.RowKit Go.ChangeShapes Go.WideShapes
set_option linter.unusedVariables false
set_option linter.unusedSimpArgs false
theorem tab_map {α : Type} (f : α → Value) (l : List α) : tab (fun x => [f x]) l = l.map f := by
 unfold tab
 induction l with
 | nil => rfl
 | cons a l ih => rw [List.flatMap_cons, ih]; rfl
def RV (e : Em) (m : Map) (v v' : Value) : Prop := ∃ u, RN e v u ∧ VR m u v'
def RVs (e : Em) (m : Map) : List Value → List Value → Prop
 | [], [] => True
 | v :: l, v' :: l' => RV e m v v' ∧ RVs e m l l'
 | _, _ => False
theorem RV.mono {e e1 : Em} {m m1 : Map} (he : e.le e1) (hm : m.le m1) {v v' : Value} (h : RV e m v v') : RV e1 m1 v v' :=
 let ⟨u, h1, h2⟩ := h; ⟨u, h1.mono he, h2.mono hm⟩
theorem RV.same {e : Em} {m : Map} {v : Value} (h : plain v = true) : RV e m v v := ⟨v, .same h, .same h⟩
theorem RVs.spec {e : Em} {m : Map} : ∀ {l l' : List Value}, RVs e m l l' → ∃ us, RNs e l us ∧ VRs m us l' := by
 intro l
 induction l with
 | nil => intro l' h; cases l' with
  | nil => exact ⟨[], RNs.nil, VRs.nil⟩
  | cons => exact h.elim
 | cons v l ih => intro l' h; cases l' with
  | nil => exact h.elim
  | cons v' l' =>
   obtain ⟨⟨u, h1, h2⟩, h3⟩ := h
   obtain ⟨us, h4, h5⟩ := ih h3
   exact ⟨u :: us, RNs.cons h1 h4, VRs.cons h2 h5⟩
theorem RV.agg {e : Em} {m : Map} {l l' : List Value} (h : RVs e m l l') : RV e m (.agg ⟨l⟩) (.agg ⟨l'⟩) := by
 obtain ⟨us, h1, h2⟩ := h.spec
 exact ⟨.agg ⟨us⟩, RNs.agg (xs := ⟨l⟩) (ys := ⟨us⟩) h1, VRs.agg (xs := ⟨us⟩) (ys := ⟨l'⟩) h2⟩
structure SRep [Bs] (P : Program) (obs : List (Option Ob)) (l : List (Option Nat)) (m : Map) (H : Heap) (W : World) : Prop where
 rep : RoRep P m H W
 hn : HN (emOf l) (hq obs) H
 len : l.length = obs.length
theorem SRep.start [Bs] {P : Program} {W : World} (hw : OnBs W) : SRep P [] [] (fun _ => none) ⟨.lf, 0⟩ W :=
 ⟨RoRep.start hw, ⟨fun b o h => (by simp [hq_get] at h), fun b x h => (by simp [emOf] at h), fun b c h => (by simp [emOf] at h), fun b c o h => (by simp [hq_get] at h), fun b o h => (by simp [hq_get] at h), fun b1 b2 c h => (by simp [emOf] at h)⟩, rfl⟩
theorem emOf_le (l : List (Option Nat)) (x : Option Nat) : (emOf l).le (emOf (l ++ [x])) := fun b y h => by
 have hb : b < l.length := (List.getElem?_eq_some_iff.1 h).1
 show (l ++ [x])[b]? = some y
 rw [List.getElem?_append_left hb]; exact h
theorem emOf_snoc {l : List (Option Nat)} {x : Option Nat} {b : Nat} {y : Option Nat} (h : emOf (l ++ [x]) b = some y) : (b < l.length ∧ emOf l b = some y) ∨ (b = l.length ∧ y = x) := by
 have hb : b < (l ++ [x]).length := (List.getElem?_eq_some_iff.1 h).1
 simp at hb
 by_cases hl : b < l.length
 ·rw [show emOf (l ++ [x]) b = (l ++ [x])[b]? from rfl, List.getElem?_append_left hl] at h
  exact .inl ⟨hl, h⟩
 ·have : b = l.length := by omega
  subst this
  simp at h
  exact .inr ⟨rfl, h.symm⟩
theorem hq_snoc {obs : List (Option Ob)} {x : Option Ob} {b : Nat} {o : Ob} (h : (hq (obs ++ [x])).get b = some o) : (b < obs.length ∧ (hq obs).get b = some o) ∨ (b = obs.length ∧ x = some o) := by
 have h := hq_some h
 have hb : b < (obs ++ [x]).length := (List.getElem?_eq_some_iff.1 h).1
 simp at hb
 by_cases hl : b < obs.length
 ·rw [List.getElem?_append_left hl] at h
  exact .inl ⟨hl, by rw [hq_get, h]⟩
 ·have : b = obs.length := by omega
  subst this
  simp at h
  exact .inr ⟨rfl, h⟩
theorem SRep.row [Bs] {P : Program} {T : Tab} (hP : ProgOk P T) {obs : List (Option Ob)} {l : List (Option Nat)} {m : Map} {H : Heap} {W : World} (h : SRep P obs l m H W) {e : TypeId} {es : Nat} (hs : T.size e = some es) {A : Option Addr} {cells : List Value} {len cap : Nat} (hA : RowW W A cells) (hp : cells.all plain = true) (hl : A = none → len = 0) (hlen : cells.length = len * es) (hes : 0 < es) (hcap : len ≤ cap) :
    ∃ (x : Option Nat) (m' : Map) (H' : Heap), SRep P (obs ++ [some ⟨cells, e, true⟩]) (l ++ [x]) m' H' W ∧ m.le m' ∧ (emOf l).le (emOf (l ++ [x])) ∧ RV (emOf (l ++ [x])) m' (.slice (some ⟨obs.length, 0, none⟩) len (unk + es)) (.slice A len (if A = none then 0 else cap)) := by
 obtain ⟨inf, hinf, hsz⟩ := hP.tab.size e es hs
 have hle := fun x => emOf_le l x
 have ghost : cells = [] → A = none → len = 0 → ∃ (x : Option Nat) (m' : Map) (H' : Heap), SRep P (obs ++ [some ⟨cells, e, true⟩]) (l ++ [x]) m' H' W ∧ m.le m' ∧ (emOf l).le (emOf (l ++ [x])) ∧ RV (emOf (l ++ [x])) m' (.slice (some ⟨obs.length, 0, none⟩) len (unk + es)) (.slice A len (if A = none then 0 else cap)) := by
  rintro rfl rfl rfl
  refine ⟨none, m, H, ⟨h.rep, ⟨fun b o q => ?_, fun b y q => ?_, fun b c q => ?_, fun b c o q1 q2 => ?_, fun b o q1 q2 => ?_, fun b1 b2 c q1 q2 l1 l2 => ?_⟩, by simp [h.len]⟩, fun _ _ q => q, hle none, .slice none 0 0, .nils (by show (l ++ [none])[obs.length]? = _; rw [← h.len]; simp) (by omega), by rw [if_pos rfl]; exact .same rfl⟩
  ·have := hq_wf _ _ _ q; exact this
  ·rcases emOf_snoc q with ⟨q1, _⟩ | ⟨q1, _⟩ <;> (rw [hq_n]; simp; have := h.len; omega)
  ·rcases emOf_snoc q with ⟨_, q2⟩ | ⟨_, q2⟩
   ·exact h.hn.rng _ _ q2
   ·cases q2
  ·rcases emOf_snoc q2 with ⟨q3, q4⟩ | ⟨_, q4⟩
   ·rcases hq_snoc q1 with ⟨_, q5⟩ | ⟨q5, _⟩
    ·obtain ⟨cs, g1, g2⟩ := h.hn.blk _ _ _ q5 q4
     exact ⟨cs, g1, g2.mono (hle none)⟩
    ·have := h.len; omega
   ·cases q4
  ·rcases emOf_snoc q2 with ⟨q3, q4⟩ | ⟨q3, q4⟩
   ·rcases hq_snoc q1 with ⟨_, q5⟩ | ⟨q5, _⟩
    ·exact h.hn.gh _ _ q5 q4
    ·have := h.len; omega
   ·rcases hq_snoc q1 with ⟨q5, _⟩ | ⟨_, q5⟩
    ·have := h.len; omega
    ·cases q5; rfl
  ·rcases emOf_snoc q1 with ⟨a1, a2⟩ | ⟨_, a2⟩
   ·rcases emOf_snoc q2 with ⟨b1', b2'⟩ | ⟨_, b2'⟩
    ·have lv : ∀ b, b < l.length → ((hq (obs ++ [some ⟨[], e, true⟩])).get b).isSome → ((hq obs).get b).isSome := fun b hb hv => by
       obtain ⟨o, ho⟩ := Option.isSome_iff_exists.1 hv
       rcases hq_snoc ho with ⟨_, q5⟩ | ⟨q5, _⟩
       ·rw [q5]; rfl
       ·have := h.len; omega
     exact h.hn.inj _ _ _ a2 b2' (lv _ a1 l1) (lv _ b1' l2)
    ·cases b2'
   ·cases a2
 have some_ : ∀ (b off : Nat), A = some ⟨b, off, none⟩ → (∃ L : Ev.Loc, BlkOk P m ⟨cells, e, true⟩ L W ∧ L.c = b ∧ L.esz = es ∧ off + cap * es ≤ L.sz ∧ (len = 0 ∨ off = L.o)) → ∃ (x : Option Nat) (m' : Map) (H' : Heap), SRep P (obs ++ [some ⟨cells, e, true⟩]) (l ++ [x]) m' H' W ∧ m.le m' ∧ (emOf l).le (emOf (l ++ [x])) ∧ RV (emOf (l ++ [x])) m' (.slice (some ⟨obs.length, 0, none⟩) len (unk + es)) (.slice A len (if A = none then 0 else cap)) := by
  rintro b off rfl ⟨L, hk, rfl, rfl, hsz2, hoff⟩
  obtain ⟨k1, k2⟩ := h.rep.push (o := ⟨cells, e, true⟩) (L := L) rfl hk
  have hn1 : (H.push ⟨cells, e, true⟩).n = H.n + 1 := Heap.n_push ..
  have hin : ∀ b c, emOf (l ++ [some H.n]) b = some (some c) → (b < l.length ∧ emOf l b = some (some c)) ∨ (b = l.length ∧ c = H.n) := fun b c q => by
   rcases emOf_snoc q with q | ⟨q1, q2⟩
   ·exact .inl q
   ·cases q2; exact .inr ⟨q1, rfl⟩
  refine ⟨some H.n, _, _, ⟨k1, ⟨fun b o q => ?_, fun b y q => ?_, fun b c q => ?_, fun b c o q1 q2 => ?_, fun b o q1 q2 => ?_, fun b1 b2 c q1 q2 l1 l2 => ?_⟩, by simp [h.len]⟩, k2, hle _, .slice (some ⟨H.n, 0, none⟩) len (unk + L.esz), .slice (by show (l ++ [some H.n])[obs.length]? = _; rw [← h.len]; simp), ?_⟩
  ·exact hq_wf _ _ _ q
  ·rcases emOf_snoc q with ⟨q1, _⟩ | ⟨q1, _⟩ <;> (rw [hq_n]; simp; have := h.len; omega)
  ·rw [hn1]
   rcases hin b c q with ⟨_, q2⟩ | ⟨_, rfl⟩
   ·have := h.hn.rng _ _ q2; omega
   ·omega
  ·rcases hin b c q2 with ⟨q3, q4⟩ | ⟨q3, rfl⟩
   ·rcases hq_snoc q1 with ⟨_, q5⟩ | ⟨q5, _⟩
    ·obtain ⟨cs, g1, g2⟩ := h.hn.blk _ _ _ q5 q4
     have := h.hn.rng _ _ q4
     exact ⟨cs, by rw [Heap.get_push, if_neg (by omega)]; exact g1, g2.mono (hle _)⟩
    ·have := h.len; omega
   ·rcases hq_snoc q1 with ⟨q5, _⟩ | ⟨_, q5⟩
    ·have := h.len; omega
    ·cases q5
     exact ⟨cells, by rw [Heap.get_push, if_pos rfl], RNs.of_plain hp⟩
  ·rcases emOf_snoc q2 with ⟨q3, q4⟩ | ⟨q3, q4⟩
   ·rcases hq_snoc q1 with ⟨_, q5⟩ | ⟨q5, _⟩
    ·exact h.hn.gh _ _ q5 q4
    ·have := h.len; omega
   ·cases q4
  ·have lv : ∀ b, b < l.length → ((hq (obs ++ [some ⟨cells, e, true⟩])).get b).isSome → ((hq obs).get b).isSome := fun b hb hv => by
     obtain ⟨o, ho⟩ := Option.isSome_iff_exists.1 hv
     rcases hq_snoc ho with ⟨_, q5⟩ | ⟨q5, _⟩
     ·rw [q5]; rfl
     ·have := h.len; omega
   rcases hin _ _ q1 with ⟨a1, a2⟩ | ⟨a1, a2⟩
   ·rcases hin _ _ q2 with ⟨b1', b2'⟩ | ⟨b1', b2'⟩
    ·exact h.hn.inj _ _ _ a2 b2' (lv _ a1 l1) (lv _ b1' l2)
    ·have := h.hn.rng _ _ a2; omega
   ·rcases hin _ _ q2 with ⟨b1', b2'⟩ | ⟨b1', b2'⟩
    ·have := h.hn.rng _ _ b2'; omega
    ·omega
  ·rw [if_neg (by simp)]
   refine .slice (L := L) (by simp) (.inr ⟨rfl, hcap, hsz2, ?_⟩)
   rcases hoff with q | q
   ·exact .inl q
   ·exact .inr (by omega)
 rcases hA.at_ with ⟨rfl, rfl⟩ | ⟨b, off, cs, e', fz, rfl, h1, h2, h3⟩
 ·exact ghost rfl rfl (hl rfl)
 ·rcases h2 with rfl | h2
  ·have hl0 : len = 0 := by
     have q : len * es = 0 := hlen.symm
     rcases Nat.mul_eq_zero.1 q with q | q
     ·exact q
     ·omega
   exact some_ b off rfl ⟨Ev.Loc.mk b 0 (off + cap * es) es, ⟨cs, e', fz, h1, by simp, fun i x hx => by simp at hx, fun h => by simp at h, inf, hinf, hsz⟩, rfl, rfl, Nat.le_refl _, .inl hl0⟩
  ·exact some_ b off rfl ⟨Ev.Loc.mk b off (off + cap * es) es, ⟨cs, e', fz, h1, by simpa using h2, fun i x hx => ⟨x, h3 i x hx, .same (List.all_eq_true.1 hp x (List.mem_of_getElem? hx))⟩, fun h => by simp at h, inf, hinf, hsz⟩, rfl, rfl, Nat.le_refl _, .inr rfl⟩
structure InRow (W : World) (v : Value) (cells : List Value) (len : Nat) : Prop where
 ex : ∃ A cap, v = .slice A len cap ∧ (A = none → cap = 0) ∧ RowW W A cells ∧ (A = none → len = 0) ∧ len ≤ cap ∧ cap ≤ maxLen
theorem InRow.len {W : World} {v : Value} {cells : List Value} {len : Nat} (h : InRow W v cells len) : len ≤ maxLen := by
 obtain ⟨A, cap, _, _, _, _, h1, h2⟩ := h.ex; omega
theorem SRep.in_ [Bs] {P : Program} {T : Tab} (hP : ProgOk P T) {obs : List (Option Ob)} {l : List (Option Nat)} {m : Map} {H : Heap} {W : World} (h : SRep P obs l m H W) {e : TypeId} {es : Nat} (hs : T.size e = some es) {v : Value} {cells : List Value} {len : Nat} (hA : InRow W v cells len) (hp : cells.all plain = true) (hlen : cells.length = len * es) (hes : 0 < es) :
    ∃ (x : Option Nat) (m' : Map) (H' : Heap), SRep P (obs ++ [some ⟨cells, e, true⟩]) (l ++ [x]) m' H' W ∧ m.le m' ∧ (emOf l).le (emOf (l ++ [x])) ∧ RV (emOf (l ++ [x])) m' (.slice (some ⟨obs.length, 0, none⟩) len (unk + es)) v := by
 obtain ⟨A, cap, rfl, hc, hA, hl, h1, h2⟩ := hA.ex
 obtain ⟨x, m', H', g1, g2, g3, g4⟩ := h.row hP hs hA hp hl hlen hes h1
 refine ⟨x, m', H', g1, g2, g3, ?_⟩
 split at g4
 ·rename_i q; rw [hc q]; exact g4
 ·exact g4
theorem wf_i64 {n : Int} (h : (Lit.int .i64 n).wf = true) : -9223372036854775808 ≤ n ∧ n ≤ 9223372036854775807 := by
 simp [Lit.wf, IntKind.min, IntKind.max, IntKind.signed, IntKind.bits] at h; omega
theorem wf_u32 {n : Int} (h : (Lit.int .u32 n).wf = true) : 0 ≤ n ∧ n < 4294967296 := by
 simp [Lit.wf, IntKind.min, IntKind.max, IntKind.signed, IntKind.bits] at h; omega
theorem calls_s [Bs] {P : Program} {T : Tab} (hP : ProgOk P T) {f : FuncId} {args args' : Array Value} {v : Value} {obs : List (Option Ob)} {l : List (Option Nat)} {m : Map} {H : Heap} {W : World} {R : Value → Heap → Prop} (hc : SCall P T f args (hq obs) R) (hR : ∀ r h, R r h → r = v) (hv : closed v = true) (hr : SRep P obs l m H W) (ha : RVs (emOf l) m args.toList args'.toList) : Calls P f args' W fun e w' => e = .returned v ∧ Below W.heap.size W w' := by
 obtain ⟨us, h1, h2⟩ := ha.spec
 refine calls_ro hP (args := us.toArray) ?_ hv hr.rep (by simpa using h2)
 exact hc.at_ (emOf l) hr.hn (by simpa using h1) fun w h1 e1 v' H1 h _ _ hrn => by
  have := hR _ _ h
  subst this
  exact hrn.closed_eq hv
end Go.Ev
end
section
namespace Go.Ev
open Go
set_option linter.unusedVariables false
set_option linter.unusedSimpArgs false
structure Qf where
 n : Nat
 ops : Array Oper
 lz : List (Nat × Nat)
 k : Nat
 l : List Oper
 K : List Kf
 s : St
 rd : List (Nat × Value × Value)
def opAt (ops : Array Oper) (i : Nat) : Op := (ops[i]?.getD default).op
def Qf.part (c : Qf) : Bool := c.lz.any fun p => p.2.beq c.k
def Qf.lk (c : Qf) : Bool := c.lz.any fun p => p.1.beq c.k
def Qf.rs (c : Qf) : List (Nat × Value × Value) := c.rd.filter fun r => c.lz.any fun p => p.1.beq r.1 && p.2.beq c.k
def Qf.put (c : Qf) (t : Nat) (v : Value) (h : Heap) : Qf := ⟨c.n, c.ops, c.lz, c.k + 1, c.l.tail, c.K, ⟨c.s.tm.put t (some v), h⟩, c.rd⟩
def Qf.putR (c : Qf) (t : Nat) (u v : Value) : Qf := ⟨c.n, c.ops, c.lz, c.k + 1, c.l.tail, c.K, ⟨c.s.tm.put t (some v), c.s.H⟩, (c.k, u, v) :: c.rd⟩
def Qf.skp (c : Qf) (h : Heap) : Qf := ⟨c.n, c.ops, c.lz, c.k + 1, c.l.tail, c.K, ⟨c.s.tm, h⟩, c.rd⟩
def Qf.see (c : Qf) (t : Nat) (v : Value) : Qf := ⟨c.n, c.ops, c.lz, c.k, c.l, c.K, ⟨c.s.tm.put t (some v), c.s.H⟩, c.rd⟩
def QOk (T : Tab) (c : Qf) (h1 : Heap) : Prop := (c.lz.all fun p => !p.2.beq c.k || c.rd.any fun r => r.1.beq p.1) = true ∧
 (c.rs.map fun r => alook T (opAt c.ops r.1) r.2.1 c.s.H) = (c.rs.map fun r => some r.2.2) ∧ (c.rs.map fun r => alook T (opAt c.ops r.1) r.2.1 h1) = (c.rs.map fun r => some r.2.2)
structure RdE (T : Tab) (e : Em) (ops : Array Oper) (acc : List St) (i : Nat) (u v : Value) (s : St) (o : Oper) (x : Operand) (u' v' : Value) : Prop where
 at_ : acc[i]? = some s
 op : ops[i]? = some o
 want : awanted ops s.tm o = true
 arg : lookArg o.op = some x
 ev : aeval s.tm x = some u'
 ru : RN e u u'
 look : alook T o.op u' s.H = some v'
 rv : RN e v v'
 vv : veq v' v' = true
def Rds (T : Tab) (e : Em) (ops : Array Oper) (acc : List St) (rd : List (Nat × Value × Value)) : Prop := ∀ r ∈ rd, ∃ s o x u' v', RdE T e ops acc r.1 r.2.1 r.2.2 s o x u' v'
theorem Rds.mono {T : Tab} {e e1 : Em} {ops : Array Oper} {acc : List St} {rd : List (Nat × Value × Value)} (he : e.le e1) (h : Rds T e ops acc rd) (y : List St) : Rds T e1 ops (acc ++ y) rd := fun r hr => by
 obtain ⟨s, o, x, u', v', k⟩ := h r hr
 exact ⟨s, o, x, u', v', ⟨by rw [List.getElem?_append_left (List.getElem?_eq_some_iff.1 k.at_).1]; exact k.at_, k.op, k.want, k.arg, k.ev, k.ru.mono he, k.look, k.rv.mono he, k.vv⟩⟩
theorem steady_app {T : Tab} {ops : Array Oper} {r : List St} {p : Nat × Nat} (h : steady T ops r p = true) (y : List St) : steady T ops (r ++ y) p = true := by
 have ext : ∀ {i : Nat} {s : St}, r[i]? = some s → (r ++ y)[i]? = some s := fun q => by rw [List.getElem?_append_left (List.getElem?_eq_some_iff.1 q).1]; exact q
 unfold steady at h ⊢
 cases h1 : r[p.1]? with
 | none => rw [h1] at h; cases h
 | some s =>
  rw [ext h1]
  rw [h1] at h
  cases h2 : ops[p.1]? with
  | none => rw [h2] at h; cases h
  | some o =>
   rw [h2] at h
   simp only at h ⊢
   cases hb : awanted ops s.tm o
   ·rfl
   ·rw [hb] at h
    simp only [cond_true] at h ⊢
    cases ha : lookArg o.op with
    | none => rw [ha] at h; cases h
    | some a =>
     rw [ha] at h
     simp only at h ⊢
     cases hv : aeval s.tm a with
     | none => rw [hv] at h; cases h
     | some v =>
      rw [hv] at h
      simp only at h ⊢
      cases k1 : alook T o.op v s.H with
      | none => rw [k1] at h; cases h
      | some u =>
       rw [k1] at h
       cases k2 : r[p.2]? with
       | none => rw [k2] at h; cases h
       | some s1 =>
        rw [k2] at h
        cases k3 : r[p.2 + 1]? with
        | none => rw [k3] at h; cases h
        | some s2 =>
         rw [k3] at h
         rw [ext k2, ext k3]
         exact h
def Pairs (T : Tab) (ops : Array Oper) (k : Nat) (r : List St) : Prop := ∀ p ∈ loose T ops, p.2 < k → steady T ops r p = true
theorem loose_lt {T : Tab} {ops : Array Oper} {p : Nat × Nat} (hp : p ∈ loose T ops) : p.2 < ops.size := by
 unfold loose at hp
 rw [List.mem_flatMap] at hp
 obtain ⟨i', hi', hp⟩ := hp
 obtain ⟨j', hj', hp⟩ := List.mem_filterMap.1 hp
 have : p = (i', j') := by
  split at hp
  ·revert hp; generalize i'.blt j' = b1; intro hp
   cases b1 <;> simp only [cond_false, cond_true] at hp
   ·revert hp; generalize Nat.testBit _ _ = b2; intro hp; cases b2 <;> simp only [cond_false, cond_true] at hp <;> cases hp; rfl
   ·revert hp; generalize Nat.testBit _ _ = b2; intro hp; cases b2 <;> simp only [cond_false, cond_true] at hp <;> cases hp; rfl
  ·cases hp
 subst this
 simpa using hj'
section
variable (P : Program) (T : Tab) (X : Cx)
def SQ (Q : Xt → St → Prop) (c : Qf) : Prop := loose T c.ops = c.lz → c.ops.toList.drop c.k = c.l → ∀ e H tm' K' acc, CX X e c.s.H H → TE e c.s.tm tm' → KE X c.K e K' → acc.length = c.k → Rds T e c.ops acc c.rd → Pairs T c.ops c.k (acc ++ [⟨tm', H⟩]) →
 ATr P T c.n c.ops c.l acc (fun r s => (loose T c.ops).all (steady T c.ops r) = true ∧ Den P T ⟨c.n, .done .normal, K', s⟩ Q) ⟨tm', H⟩
def finQ (c : Qf) (o : Oper) (v : Value) (h : Heap) : Option Qf := match dput c.n c.s.tm o.dst v with
 | some tm => some ⟨c.n, c.ops, c.lz, c.k + 1, c.l.tail, c.K, ⟨tm, h⟩, c.rd⟩
 | none => none
def stepQ (c : Qf) : Option Qf := bif c.part || c.lk then none else match c.l with
 | [] => none
 | o :: _ =>
  bif strictO c.s.tm c.ops o then
   bif awanted c.ops c.s.tm o then
    match aop P T c.s.tm o c.s.H with
    | some (.val v, h) => finQ c o v h
    | some (.skip, h) => finQ c o undef h
    | some (.enter f args, h) => match T.orc f args.toList with | some v => finQ c o v h | none => none
    | none => none
   else finQ c o undef c.s.H
  else none
def goQ : Nat → Qf → Qf
 | 0, c => c
 | k + 1, c => match stepQ P T c with
  | some c' => goQ k c'
  | none => c
end
section
variable {P : Program} {T : Tab} {X : Cx} {Q : Xt → St → Prop} {c : Qf}
theorem pairs_no {T : Tab} {c : Qf} {e : Em} {H : Heap} {tm' : Tr Value} {acc : List St} (hlz : loose T c.ops = c.lz) (hp : Pairs T c.ops c.k (acc ++ [⟨tm', H⟩])) (hq : c.part = false) (S1 : St) : Pairs T c.ops (c.k + 1) ((acc ++ [⟨tm', H⟩]) ++ [S1]) := fun p hm hlt => by
 rcases (by omega : p.2 < c.k ∨ p.2 = c.k) with h | h
 ·exact steady_app (hp p hm h) _
 ·exfalso
  rw [hlz] at hm
  have : c.part = true := List.any_eq_true.2 ⟨p, hm, by rw [h]; exact Nat.beq_refl _⟩
  rw [hq] at this; cases this
theorem pairs_ok {e e1 : Em} {h1 H H1 : Heap} {tm' : Tr Value} {acc : List St} (hlz : loose T c.ops = c.lz) (hacc : acc.length = c.k) (hrd : Rds T e c.ops acc c.rd) (hn : HN e c.s.H H) (hn1 : HN e1 h1 H1) (he : e.le e1) (hp : Pairs T c.ops c.k (acc ++ [⟨tm', H⟩])) (hq : QOk T c h1) (tm1 : Tr Value) : Pairs T c.ops (c.k + 1) ((acc ++ [⟨tm', H⟩]) ++ [⟨tm1, H1⟩]) := fun p hm hlt => by
 rcases (by omega : p.2 < c.k ∨ p.2 = c.k) with h | h
 ·exact steady_app (hp p hm h) _
 ·rw [hlz] at hm
  obtain ⟨q1, q2, q3⟩ := hq
  have := List.all_eq_true.1 q1 p hm
  rw [h, Nat.beq_refl, Bool.not_true, Bool.false_or, List.any_eq_true] at this
  obtain ⟨r, hr, hri⟩ := this
  have hri := Nat.eq_of_beq_eq_true hri
  have hrs : r ∈ c.rs := List.mem_filter.2 ⟨hr, List.any_eq_true.2 ⟨p, hm, by rw [Bool.and_eq_true, h, hri]; exact ⟨Nat.beq_refl _, Nat.beq_refl _⟩⟩⟩
  have g2 := List.map_inj_left.1 q2 r hrs
  have g3 := List.map_inj_left.1 q3 r hrs
  obtain ⟨s, o, x, u', v', k⟩ := hrd r hr
  have hop : opAt c.ops r.1 = o.op := by unfold opAt; rw [k.op]; rfl
  simp only [hop] at g2 g3
  obtain ⟨w, a1, a2⟩ := alook_rn g2 hn k.ru
  obtain ⟨w1, b1, b2⟩ := alook_rn g3 hn1 (k.ru.mono he)
  have e2 : w = v' := a2.inj k.rv
  have e3 : w1 = v' := b2.inj (k.rv.mono he)
  subst e2 e3
  have hlt2 : r.1 < acc.length := (List.getElem?_eq_some_iff.1 k.at_).1
  unfold steady
  have i1 : ((acc ++ [⟨tm', H⟩]) ++ [⟨tm1, H1⟩])[p.1]? = some s := by
   rw [← hri, List.getElem?_append_left (by simp; omega), List.getElem?_append_left hlt2]; exact k.at_
  have i2 : ((acc ++ [⟨tm', H⟩]) ++ [(⟨tm1, H1⟩ : St)])[p.2]? = some ⟨tm', H⟩ := by
   rw [h, ← hacc, List.getElem?_append_left (by simp), List.getElem?_append_right (by omega)]; simp
  have i3 : ((acc ++ [⟨tm', H⟩]) ++ [(⟨tm1, H1⟩ : St)])[p.2 + 1]? = some ⟨tm1, H1⟩ := by
   rw [h, ← hacc, List.getElem?_append_right (by simp)]; simp
  rw [i1, ← hri, k.op]
  simp only [k.want, cond_true, k.arg, k.ev, k.look, hri, i2, i3, a1, b1, k.vv, Bool.and_self]
theorem drop_hd {c : Qf} (hd : c.ops.toList.drop c.k = c.l) : c.ops.toList.drop (c.k + 1) = c.l.tail := by rw [← hd, List.tail_drop]
theorem hd_at {c : Qf} (hd : c.ops.toList.drop c.k = c.l) (hl : c.l.isEmpty = false) : c.ops[c.k]? = some (hdO c.l) := by
 have h1 := hdO_tail hl
 have : (c.ops.toList.drop c.k)[0]? = c.l[0]? := by rw [hd]
 rw [List.getElem?_drop] at this
 rw [h1] at this
 simpa using this
def strictQ (c : Qf) : Bool := guardP c.s.tm c.ops (hdO c.l) && ((hdO c.l).op.operands.toList.all (pres c.s.tm) && okB c.s.tm (hdO c.l).op)
theorem big_okQ {t : Nat} {e : Em} {tm' : Tr Value} {H : Heap} (ho : okV c.n c.ops c.s c.l t = true) (hs : strictQ c = true) (ht : TE e c.s.tm tm') : okV c.n c.ops ⟨tm', H⟩ c.l t = true := by
 unfold strictQ at hs
 rw [Bool.and_eq_true] at hs
 have haw := awanted_rn ht hs.1
 unfold okV at ho ⊢
 rw [show awanted c.ops (⟨tm', H⟩ : St).tm (hdO c.l) = awanted c.ops c.s.tm (hdO c.l) from haw]
 exact ho
theorem sd_drawQ {d : Cf} (lz : List (Nat × Nat)) (h : atD d = true) (hz : loose T (opsD d) = lz) (hk : SQ P T X Q ⟨d.n, opsD d, lz, 0, (opsD d).toList, d.K, d.s, []⟩) : SD P T X Q d := by
 intro e H tm' K' hx ht hK
 have h' : atD ⟨d.n, d.p, K', ⟨tm', H⟩⟩ = true := by unfold atD at h ⊢; exact h
 refine cf_drawW h' ?_
 exact hk hz rfl e H tm' K' [] hx ht hK rfl (fun r hr => by cases hr) (fun p _ hp => absurd hp (Nat.not_lt_zero _))
theorem sq_see (t : Nat) (v : Value) (h : c.s.tm.get t = some v) (hk : SQ P T X Q (c.see t v)) : SQ P T X Q c := by
 obtain ⟨n, ops, lz, k, l, K, s, rd⟩ := c
 have := st_see t v h
 unfold Qf.see at hk
 rw [← this] at hk
 exact hk
theorem sq_end (he : c.l.isEmpty = true) (hk : SD P T X Q ⟨c.n, .done .normal, c.K, c.s⟩) : SQ P T X Q c := fun hz hd e H tm' K' acc hx ht hK hacc hr hp => atr_end he ⟨by
 rw [List.all_eq_true]
 intro p hm
 refine hp p hm ?_
 have h1 := loose_lt hm
 have h2 : c.l = [] := by simpa using he
 rw [h2, List.drop_eq_nil_iff] at hd
 simp at hd
 omega, hk e H tm' K' hx ht hK⟩
theorem atr_val1 {n : Nat} {ops : Array Oper} {l : List Oper} {acc : List St} {s : St} {R : List St → St → Prop} (t : Nat) (v : Value) (H' : Heap) (ho : okV n ops s l t = true) (ha : aop P T s.tm (hdO l) s.H = some (.val v, H')) (hk : ATr P T n ops l.tail (acc ++ [s]) R ⟨s.tm.put t (some v), H'⟩) : ATr P T n ops l acc R s := by
 obtain ⟨h1, h2, h3⟩ := okV_spec ho
 rw [h1]
 show AStep P T n ops (hdO l) _ s
 unfold AStep
 rw [h2, ha]
 exact aput_k (h3 v) hk
theorem atr_call1 {n : Nat} {ops : Array Oper} {l : List Oper} {acc : List St} {s : St} {R : List St → St → Prop} (t : Nat) (f : FuncId) (args : Array Value) (ho : okV n ops s l t = true) (ha : aop P T s.tm (hdO l) s.H = some (.enter f args, s.H)) (hk : ACall P T f args s.H fun v H' => ATr P T n ops l.tail (acc ++ [s]) R ⟨s.tm.put t (some v), H'⟩) : ATr P T n ops l acc R s := by
 obtain ⟨h1, h2, h3⟩ := okV_spec ho
 rw [h1]
 show AStep P T n ops (hdO l) _ s
 unfold AStep
 rw [h2, ha]
 exact hk.mono fun v H' h => aput_k (h3 v) h
theorem sq_val (t : Nat) (v : Value) (h1 : Heap) (ho : okV c.n c.ops c.s c.l t = true) (hs : strictQ c = true) (ha : aop P T c.s.tm (hdO c.l) c.s.H = some (.val v, h1)) (hq : QOk T c h1) (hk : SQ P T X Q (c.put t v h1)) : SQ P T X Q c := by
 intro hz hd e H tm' K' acc hx ht hK hacc hr hp
 have hs' := hs
 unfold strictQ at hs'
 simp only [Bool.and_eq_true] at hs'
 obtain ⟨r', H1, e1, g1, g2, g3, g4⟩ := aop_rn ha hx.hn (ht.op hs'.2.1) hs'.2.2
 cases g4 with
 | val hv =>
  exact atr_val1 t _ H1 (big_okQ ho hs ht) g1 (hk hz (drop_hd hd) e1 H1 _ K' _ (hx.next X.ok g2 g3) ((ht.mono g3.le).put t hv) (KE.mono g3.le hK) (by simp [hacc, Qf.put]) (hr.mono g3.le _) (pairs_ok hz hacc hr hx.hn g2 g3.le hp hq _))
theorem sq_skip (h1 : Heap) (he : c.l.isEmpty = false) (hw : awanted c.ops c.s.tm (hdO c.l) = true) (hd : (hdO c.l).dst = none) (hs : strictQ c = true) (ha : aop P T c.s.tm (hdO c.l) c.s.H = some (.skip, h1)) (hq : QOk T c h1)
    (hk : SQ P T X Q (c.skp h1)) : SQ P T X Q c := by
 intro hz hdr e H tm' K' acc hx ht hK hacc hr hp
 have hs' := hs
 unfold strictQ at hs'
 simp only [Bool.and_eq_true] at hs'
 obtain ⟨r', H1, e1, g1, g2, g3, g4⟩ := aop_rn ha hx.hn (ht.op hs'.2.1) hs'.2.2
 cases g4 with
 | skip => exact atr_skip H1 he ((awanted_rn ht hs'.1).trans hw) hd g1 (hk hz (drop_hd hdr) e1 H1 _ K' _ (hx.next X.ok g2 g3) (ht.mono g3.le) (KE.mono g3.le hK) (by simp [hacc, Qf.skp]) (hr.mono g3.le _) (pairs_ok hz hacc hr hx.hn g2 g3.le hp hq _))
theorem sq_look (t : Nat) (v u : Value) (x : Operand) (ho : okV c.n c.ops c.s c.l t = true) (hs : strictQ c = true) (hx0 : lookArg (hdO c.l).op = some x) (hu : aeval c.s.tm x = some u) (hv : alook T (hdO c.l).op u c.s.H = some v) (hvv : veq v v = true) (hpt : c.part = false) (hk : SQ P T X Q (c.putR t u v)) : SQ P T X Q c := by
 have ha := look_aop (P := P) hx0 hu hv
 intro hz hd e H tm' K' acc hx ht hK hacc hr hp
 have hs' := hs
 unfold strictQ at hs'
 simp only [Bool.and_eq_true] at hs'
 have hxm : x ∈ (hdO c.l).op.operands.toList := by
  revert hx0
  generalize (hdO c.l).op = op
  intro hx0
  unfold lookArg at hx0
  split at hx0 <;> cases hx0 <;> simp [Op.operands]
 obtain ⟨u', k1, k2⟩ := ht.op hs'.2.1 x hxm u hu
 obtain ⟨v', k3, k4⟩ := alook_rn hv hx.hn k2
 have hlook : aop P T tm' (hdO c.l) H = some (.val v', H) := look_aop hx0 k1 k3
 have hok := big_okQ (H := H) ho hs ht
 have hne : c.l.isEmpty = false := by
  have := (okV_spec hok).1
  rw [this]; rfl
 refine atr_val1 t v' H hok hlook (hk hz (drop_hd hd) e H _ K' _ hx (ht.put t k4) hK (by simp [hacc, Qf.putR]) (fun r hr2 => ?_) (pairs_no (e := e) hz hp hpt _))
 rcases List.mem_cons.1 hr2 with rfl | hr2
 ·exact ⟨_, hdO c.l, x, u', v', ⟨by rw [← hacc]; simp, hd_at hd hne, (okV_spec hok).2.1, hx0, k1, k2, k3, k4, veq_rn k4 hvv⟩⟩
 ·exact hr.mono (Em.le_refl _) _ r hr2
theorem sq_ask [OrcDat T] (t : Nat) (v : Value) (f : FuncId) (args : Array Value) (ho : okV c.n c.ops c.s c.l t = true) (hs : strictQ c = true) (ha : aop P T c.s.tm (hdO c.l) c.s.H = some (.enter f args, c.s.H)) (hv : T.orc f args.toList = some v) (hq : QOk T c c.s.H) (hk : SQ P T X Q (c.put t v c.s.H)) : SQ P T X Q c := by
 intro hz hd e H tm' K' acc hx ht hK hacc hr hp
 have hs' := hs
 unfold strictQ at hs'
 simp only [Bool.and_eq_true] at hs'
 obtain ⟨r', H1, e1, g1, g2, g3, g4⟩ := aop_rn ha hx.hn (ht.op hs'.2.1) hs'.2.2
 cases g4 with
 | enter hr2 =>
  rename_i args'
  have hv' : T.orc f args'.toList = some v := by rw [OrcDat.rn inferInstance hr2]; exact hv
  have hcl := (OrcDat.dat (T := T) _ _ _ hv).1
  have := enter_heap g1
  subst this
  exact atr_call1 t f args' (big_okQ ho hs ht) g1 (acall_orc hv' (hk hz (drop_hd hd) e1 H1 _ K' _ (hx.next X.ok g2 g3) ((ht.mono g3.le).put t (.of_closed hcl)) (KE.mono g3.le hK) (by simp [hacc, Qf.put]) (hr.mono g3.le _) (pairs_ok hz hacc hr hx.hn g2 g3.le hp hq _)))
theorem sq_call (t : Nat) (f : FuncId) (args : Array Value) {R : Value → Heap → Prop} {args0 : Array Value} {k : Heap} (hc : SCall P T f args0 k R) (g : Em) (ho : okV c.n c.ops c.s c.l t = true) (hs : strictQ c = true)
    (ha : aop P T c.s.tm (hdO c.l) c.s.H = some (.enter f args, c.s.H)) (hg : HN g k c.s.H) (hr : RNs g args0.toList args.toList)
    (hk : ∀ v k1, R v k1 → ∃ w h1, Glue g k k1 c.s.H h1 ∧ RN (g.ext k.n c.s.H.n) v w ∧ QOk T c h1 ∧ SQ P T X Q (c.put t w h1)) : SQ P T X Q c := by
 intro hz hd e H tm' K' acc hx ht hK hacc hrd hp
 have hs' := hs
 unfold strictQ at hs'
 simp only [Bool.and_eq_true] at hs'
 obtain ⟨r', H1, e1, g1, g2, g3, g4⟩ := aop_rn ha hx.hn (ht.op hs'.2.1) hs'.2.2
 cases g4 with
 | enter hr2 =>
  rename_i args'
  have := enter_heap g1
  subst this
  have hx1 := hx.next X.ok g2 g3
  refine atr_call1 t f args' (big_okQ ho hs ht) g1 ((hc (g.comp e1) args' H1 (hg.comp g2) (hr.comp hr2)).mono fun v' H2 hh => ?_)
  obtain ⟨v, k1, e2, r1, r2, r3, r4⟩ := hh
  obtain ⟨w, h1, gl, rw_, hcm, hd2⟩ := hk v k1 r1
  obtain ⟨e3, s1, s2, s3⟩ := gl.run hg g2 r2 r3
  have hle : e.le e3 := fun b x q => s2.le _ _ (g3.le _ _ q)
  exact hd2 hz (drop_hd hd) e3 H2 _ K' _ (hx1.next X.ok s1 s2) (((ht.mono g3.le).mono s2.le).put t (s3 _ _ _ rw_ r4)) (KE.mono s2.le (KE.mono g3.le hK)) (by simp [hacc, Qf.put]) (hrd.mono hle _) (pairs_ok hz hacc hrd hx.hn s1 hle hp hcm _)
theorem stepQ_sound [OrcDat T] {c' : Qf} (h : stepQ P T c = some c') (hd : SQ P T X Q c') : SQ P T X Q c := by
 intro hz hdr e H tm' K' acc hx ht hK hacc hrd hp
 unfold stepQ at h
 cases hcl : (c.part || c.lk)
 case true => rw [hcl] at h; cases h
 rw [hcl] at h
 simp only [cond_false] at h
 rw [Bool.or_eq_false_iff] at hcl
 obtain ⟨hpt, _⟩ := hcl
 have hpn := pairs_no (e := e) hz hp hpt
 obtain ⟨n, ops, lz, k, l, K, s, rd⟩ := c
 simp only at hx ht hK hz hdr hacc hrd hp hpn ⊢
 cases l with
 | nil => cases h
 | cons o l =>
  simp only at h
  cases hst : strictO s.tm ops o
  ·rw [hst] at h; cases h
  rw [hst] at h
  simp only [cond_true] at h
  unfold strictO at hst
  simp only [Bool.and_eq_true] at hst
  obtain ⟨hg, hst⟩ := hst
  have haw := awanted_rn ht hg
  have hdr1 : ops.toList.drop (k + 1) = l := drop_hd (c := ⟨n, ops, lz, k, o :: l, K, s, rd⟩) hdr
  have fin : ∀ {v v' : Value} {h1 H1 : Heap} {e1 : Em}, finQ ⟨n, ops, lz, k, o :: l, K, s, rd⟩ o v h1 = some c' → HN e1 h1 H1 → Ex e e1 s.H H h1 H1 → RN e1 v v' → APut n o.dst v' tm' H1 (ATr P T n ops l (acc ++ [⟨tm', H⟩]) fun r s' => (loose T ops).all (steady T ops r) = true ∧ Den P T ⟨n, .done .normal, K', s'⟩ Q) := by
   intro v v' h1 H1 e1 hf g2 g3 hv
   unfold finQ at hf
   simp only at hf
   cases hdst : o.dst with
   | none =>
    rw [hdst] at hf
    simp only [dput] at hf
    cases hf
    exact aput_k (tm' := tm') rfl (hd hz hdr1 e1 H1 tm' K' _ (hx.next X.ok g2 g3) (ht.mono g3.le) (KE.mono g3.le hK) (by simp [hacc]) (hrd.mono g3.le _) (hpn _))
   | some d =>
    rw [hdst] at hf
    simp only [dput] at hf
    cases hb : d.blt n
    ·rw [hb] at hf; cases hf
    ·rw [hb] at hf
     simp only [cond_true] at hf
     cases hf
     exact aput_k (tm' := tm'.put d (some v')) (by simp only [dput, hb, cond_true]) (hd hz hdr1 e1 H1 _ K' _ (hx.next X.ok g2 g3) ((ht.mono g3.le).put d hv) (KE.mono g3.le hK) (by simp [hacc]) (hrd.mono g3.le _) (hpn _))
  show AStep P T n ops o _ ⟨tm', H⟩
  unfold AStep
  simp only [haw]
  cases hw : awanted ops s.tm o
  ·rw [hw] at h
   simp only [cond_false] at h ⊢
   exact fin h hx.hn (Ex.refl _ _ _) (.of_closed rfl)
  ·rw [hw] at h hst
   simp only [cond_true, Bool.not_true, Bool.false_or, Bool.and_eq_true] at h hst ⊢
   split at h
   ·rename_i v h1 q
    obtain ⟨r', H1, e1, g1, g2, g3, g4⟩ := aop_rn q hx.hn (ht.op hst.1) hst.2
    cases g4 with
    | val hv =>
     simp only [g1]
     exact fin h g2 g3 hv
   ·rename_i h1 q
    obtain ⟨r', H1, e1, g1, g2, g3, g4⟩ := aop_rn q hx.hn (ht.op hst.1) hst.2
    cases g4 with
    | skip =>
     simp only [g1]
     exact fin h g2 g3 (.of_closed rfl)
   ·rename_i f args h1 q
    obtain ⟨r', H1, e1, g1, g2, g3, g4⟩ := aop_rn q hx.hn (ht.op hst.1) hst.2
    cases g4 with
    | enter hr =>
     rename_i args'
     have := enter_heap g1
     subst this
     split at h
     ·rename_i v q2
      have hv' : T.orc f args'.toList = some v := by rw [OrcDat.rn inferInstance hr]; exact q2
      simp only [g1]
      exact acall_orc hv' (fin h g2 g3 (.of_closed (OrcDat.dat (T := T) _ _ _ q2).1))
     ·cases h
   ·cases h
theorem sq_run [OrcDat T] (k : Nat) (h : SQ P T X Q (goQ P T k c)) : SQ P T X Q c := by
 induction k generalizing c with
 | zero => exact h
 | succ k ih =>
  cases q : stepQ P T c with
  | none => simp only [goQ, q] at h; exact h
  | some c' => simp only [goQ, q] at h; exact stepQ_sound q (ih h)
def ldQ (c : Qf) : Option (TypeId × Value) := match (hdO c.l).op with
 | .load ty a => (match aeval c.s.tm a with | some u => some (ty, u) | none => none)
 | _ => none
theorem sq_rd (t : Nat) (v u : Value) (ty : TypeId) (ho : okV c.n c.ops c.s c.l t = true) (hs : strictQ c = true) (h1 : ldQ c = some (ty, u)) (hl : aload T ty u c.s.H = some v) (hvv : veq v v = true) (hpt : c.part = false) (hk : SQ P T X Q (c.putR t u v)) : SQ P T X Q c := by
 unfold ldQ at h1
 split at h1
 ·rename_i ty' a hop
  split at h1
  ·rename_i w hw
   cases h1
   exact sq_look t v _ _ ho hs (by rw [hop]; rfl) hw (by rw [hop]; exact hl) hvv hpt hk
  ·cases h1
 ·cases h1
theorem qok_no (hpt : c.part = false) (h1 : Heap) : QOk T c h1 := by
 have hno : ∀ p ∈ c.lz, p.2.beq c.k = false := fun p hp => by
  cases hb : p.2.beq c.k
  ·rfl
  ·have : c.part = true := List.any_eq_true.2 ⟨p, hp, hb⟩
   rw [hpt] at this; cases this
 have hrs : c.rs = [] := List.filter_eq_nil_iff.2 fun r _ => by
  rw [List.any_eq_true]
  rintro ⟨p, hp, hb⟩
  rw [Bool.and_eq_true, hno p hp] at hb
  cases hb.2
 exact ⟨List.all_eq_true.2 fun p hp => by rw [hno p hp]; rfl, by rw [hrs]; rfl, by rw [hrs]; rfl⟩
theorem sq_ld (t : Nat) (v : Value) (ty : TypeId) (p : Value) (ho : okV c.n c.ops c.s c.l t = true) (hs : strictQ c = true) (h1 : ldQ c = some (ty, p)) (hl : aload T ty p c.s.H = some v) (hpt : c.part = false) (hk : SQ P T X Q (c.put t v c.s.H)) : SQ P T X Q c := by
 unfold ldQ at h1
 split at h1
 ·rename_i ty' a hop
  split at h1
  ·rename_i w hw
   cases h1
   exact sq_val t v c.s.H ho hs (look_aop (by rw [hop]; rfl) hw (by rw [hop]; exact hl)) (qok_no hpt _) hk
  ·cases h1
 ·cases h1
theorem sq_ix (t : Nat) (v : Value) (i len : Nat) (ho : okV c.n c.ops c.s c.l t = true) (hs : strictQ c = true) (h1 : aop P T c.s.tm (hdO c.l) c.s.H = val (bif i.blt len then some v else none) c.s.H) (hi : i < len) (hpt : c.part = false) (hk : SQ P T X Q (c.put t v c.s.H)) : SQ P T X Q c := by
 refine sq_val t v c.s.H ho hs ?_ (qok_no hpt _) hk
 rw [h1, show i.blt len = true from (by rw [blt_dec]; simp [hi])]
 rfl
def stQ (c : Qf) : Option (TypeId × Value × Value) := match (hdO c.l).op with
 | .store ty a x => (match aeval c.s.tm a, aeval c.s.tm x with | some u, some v => some (ty, u, v) | _, _ => none)
 | _ => none
theorem sq_st (ty : TypeId) (b off : Nat) (x : Value) (l : List Value) {cells : List Value} {e : TypeId} (he : c.l.isEmpty = false) (hw : awanted c.ops c.s.tm (hdO c.l) = true) (hd : (hdO c.l).dst = none) (hs : strictQ c = true) (h1 : stQ c = some (ty, .pointer (some ⟨b, off, none⟩), x)) (g : c.s.H.get b = some ⟨cells, e, false⟩) (h : astoreC T ty cells off x = some l)
    (hq : QOk T c (c.s.H.put b ⟨l, e, false⟩)) (hk : SQ P T X Q (c.skp (c.s.H.put b ⟨l, e, false⟩))) : SQ P T X Q c := by
 refine sq_skip _ he hw hd hs ?_ hq hk
 unfold stQ at h1
 unfold aop
 split at h1
 ·rename_i ty' a y hop
  split at h1
  ·rename_i u v hu hv; cases h1; simp only [hop, hu, hv, astore_to g h, skp]
  ·cases h1
 ·cases h1
def apQ (c : Qf) : Option (TypeId × TypeId × Value × Value) := match (hdO c.l).op with
 | .call cl => (match cl.callee, cl.argTypes.toList, aevals c.s.tm cl.args.toList with | .builtin .append, [st, xt], some [s, x] => some (st, xt, s, x) | _, _, _ => none)
 | _ => none
theorem sq_ap (t : Nat) (st xt : TypeId) (s x v : Value) (h1 : Heap) (ho : okV c.n c.ops c.s c.l t = true) (hs : strictQ c = true) (hA : apQ c = some (st, xt, s, x)) (ha : aappend T st xt s x c.s.H = some (v, h1)) (hpt : c.part = false) (hk : SQ P T X Q (c.put t v h1)) : SQ P T X Q c := by
 unfold apQ at hA
 split at hA
 ·rename_i cl hop
  split at hA
  ·rename_i st' xt' s' x' e1 e2 e3
   cases hA
   refine sq_val t v h1 ho hs ?_ (qok_no hpt _) hk
   unfold aop
   simp only [hop, acall, e1, e2, e3, ha, val2]
  ·cases hA
 ·cases hA
theorem sq_grow (t : Nat) (st xt e : TypeId) (s0 by_ b len n nb : Nat) (x : Value) (xs new ys : List Value) (ho : okV c.n c.ops c.s c.l t = true) (hs : strictQ c = true) (hA : apQ c = some (st, xt, .slice (some ⟨b, 0, none⟩) len (unk + (s0 + 1)), x)) (hT : apTab T st xt = some (e, s0, by_))
    (g : c.s.H.get b = some ⟨xs, e, false⟩) (hxs : xs.length = len * (s0 + 1)) (hsrc : asrc (s0 + 1) x c.s.H = some (n, new)) (hone : new.all Ev.one = true) (hn : 0 < n) (hne : (blockOf x == some b) = false) (hbig : (len + n) * (by_ + 1) ≤ 140737488355328) (hnb : c.s.H.n = nb) (hy : xs ++ new = ys)
    (hpt : c.part = false) (hk : SQ P T X Q (c.put t (.slice (some ⟨nb, 0, none⟩) (len + n) (unk + (s0 + 1))) ((c.s.H.kill b).push ⟨ys, e, false⟩))) : SQ P T X Q c := by
 obtain ⟨k1, ⟨xd, k2, k3⟩, k4, k5, z, k6⟩ := apTab_spec hT
 subst hnb hy
 exact sq_ap t st xt _ x _ _ ho hs hA (aappend_grow k1 k2 k3 k4 k5 k6 g hxs hsrc hone hn (by simpa using hne) hbig) hpt hk
theorem aappend_part {T : Tab} {st xt e : TypeId} {xd : TypeDesc} {s0 by_ : Nat} {z : Value} (hu : T.under st = some (.slice e)) (hx : T.under xt = some xd) (hi : isIntD xd = false) (hs : T.size e = some (s0 + 1)) (hb : T.bytes e = some (by_ + 1)) (hz : T.zero e = some z)
    {H : Heap} {x : Value} {B len n : Nat} {xs new : List Value} (hget : H.get B = some ⟨xs, e, false⟩) (hxs : len * (s0 + 1) ≤ xs.length) (hsrc : asrc (s0 + 1) x H = some (n, new)) (hone : new.all one = true) (hn : 0 < n) (hne : blockOf x ≠ some B)
    (hbig : (len + n) * (by_ + 1) ≤ 140737488355328) :
    aappend T st xt (.slice (some ⟨B, 0, none⟩) len (unk + (s0 + 1))) x H = some (.slice (some ⟨H.n, 0, none⟩) (len + n) (unk + (s0 + 1)), (H.kill B).push ⟨xs.take (len * (s0 + 1)) ++ new, e, false⟩) := by
 have en : n.beq 0 = false := by rw [beq_dec]; simp; omega
 have e1 : (blockOf x == some B) = false := by simpa using hne
 have e2 : unk.ble (unk + (s0 + 1)) = true := by rw [ble_dec]; simp
 have e3 : (0 + len * (s0 + 1)).ble xs.length = true := by rw [ble_dec]; simp; exact hxs
 have e4 : ((len + n) * (by_ + 1)).ble 140737488355328 = true := by rw [ble_dec]; simp [hbig]
 unfold aappend
 simp only [hu, hx, hi, hs, hb, hz, hsrc, cond_false, e1, hget, e2, cond_true, Nat.beq_refl, en, e3, hone, e4, Bool.and_self, List.drop_zero]
theorem sq_wf (h : (∀ b o, c.s.H.get b = some o → b < c.s.H.n) → SQ P T X Q c) : SQ P T X Q c := fun hz hd e H tm' K' acc hx => h hx.hn.wf hz hd e H tm' K' acc hx
theorem sq_callp (t : Nat) (f : FuncId) (args : Array Value) {R : Value → Heap → Prop} {args0 : Array Value} {l : List (Option Ob)} (hc : SCall P T f args0 (hq l) R) (g : List (Option Nat)) (ho : okV c.n c.ops c.s c.l t = true) (hs : strictQ c = true)
    (ha : aop P T c.s.tm (hdO c.l) c.s.H = some (.enter f args, c.s.H)) (hg : HN (emOf g) (hq l) c.s.H) (hr : rnG (rn2 (emOf g)) args0.toList = some args.toList) (hqk : QOk T c c.s.H)
    (hk : ∀ v k1, R v k1 → k1 = hq l ∧ ∃ w, rn2 ((emOf g).ext l.length c.s.H.n) v = some w ∧ SQ P T X Q (c.put t w c.s.H)) : SQ P T X Q c :=
 sq_wf fun hwf => sq_call t f args hc (emOf g) ho hs ha hg (rnG_sound rn2_sound _ _ hr) fun v k1 h => by
  obtain ⟨rfl, w, h1, h2⟩ := hk v k1 h
  exact ⟨w, c.s.H, Glue.refl hg hwf, rn2_sound _ _ h1, hqk, h2⟩
end
attribute [irreducible] SQ
section
variable {P : Program} {T : Tab} {X : Cx} {Q : Xt → St → Prop} {c : Cf}
theorem sd_growp (t : Nat) (st xt e : TypeId) (s0 by_ b len n nb : Nat) (x : Value) (xs new ys : List Value) (ho : okOp c t = true) (hs : strictC c = true) (hA : apOf c = some (st, xt, .slice (some ⟨b, 0, none⟩) len (unk + (s0 + 1)), x)) (hT : apTab T st xt = some (e, s0, by_))
    (g : c.s.H.get b = some ⟨xs, e, false⟩) (hxs : len * (s0 + 1) ≤ xs.length) (hsrc : asrc (s0 + 1) x c.s.H = some (n, new)) (hone : new.all Ev.one = true) (hn : 0 < n) (hne : (blockOf x == some b) = false) (hbig : (len + n) * (by_ + 1) ≤ 140737488355328) (hnb : c.s.H.n = nb) (hy : xs.take (len * (s0 + 1)) ++ new = ys)
    (hk : SD P T X Q (c.put t (.slice (some ⟨nb, 0, none⟩) (len + n) (unk + (s0 + 1))) ((c.s.H.kill b).push ⟨ys, e, false⟩))) : SD P T X Q c := by
 obtain ⟨k1, ⟨xd, k2, k3⟩, k4, k5, z, k6⟩ := apTab_spec hT
 subst hnb hy
 exact sd_ap t st xt _ x _ _ ho hs hA (aappend_part k1 k2 k3 k4 k5 k6 g hxs hsrc hone hn (by simpa using hne) hbig) hk
end
def slOf (tm : Tr Value) (o : Op) : Option (TypeId × Value × Option Value × Option Value) := match o with
 | .slice t x lo hi none => (match aeval tm x, aevalo tm lo, aevalo tm hi with | some v, some l, some h => some (t, v, l, h) | _, _, _ => none)
 | _ => none
theorem aop_slice {P : Program} {T : Tab} {tm : Tr Value} {o : Oper} {H : Heap} {t : TypeId} {x v : Value} {l h : Option Value} (hA : slOf tm o.op = some (t, x, l, h)) (hv : aslice T t x l h none = some v) : aop P T tm o H = some (.val v, H) := by
 unfold slOf at hA
 split at hA
 ·rename_i t' x' lo hi hop
  split at hA
  ·rename_i a b c e1 e2 e3
   cases hA
   unfold aop
   simp only [hop, e1, e2, e3, show aevalo tm none = some none from rfl, hv, orVal, val]
  ·cases hA
 ·cases hA
theorem aslice_hi {T : Tab} {t e : TypeId} {size b off n h : Nat} {kk : IntKind} (hT : T.under t = some (.slice e)) (hz : T.size e = some size) (hh : h ≤ n) : aslice T t (.slice (some ⟨b, off, none⟩) n (unk + size)) none (some (.int kk (h : Int))) none = some (.slice (some ⟨b, off, none⟩) h (unk + size)) := by
 unfold aslice
 have e1 : Nat.ble 0 h = true := Nat.ble_eq_true_of_le (Nat.zero_le _)
 have e2 : Nat.ble unk (unk + size) = true := Nat.ble_eq_true_of_le (Nat.le_add_right _ _)
 have e3 : Nat.ble h n = true := Nat.ble_eq_true_of_le hh
 have e4 : (unk + size).beq (unk + size) = true := Nat.beq_refl _
 simp only [hT, hz, show ((h : Nat) : Int) = Int.ofNat h from rfl, e1, e2, e3, e4, cond_true, Bool.and_self, Nat.zero_mul, Nat.add_zero, Nat.sub_zero]
theorem sd_slh {P : Program} {T : Tab} {X : Cx} {Q : Xt → St → Prop} {c : Cf} (t : Nat) (ty e : TypeId) (size b off n h : Nat) (kk : IntKind) (ho : okOp c t = true) (hs : strictC c = true) (hA : slOf c.s.tm (opC c).op = some (ty, .slice (some ⟨b, off, none⟩) n (unk + size), none, some (.int kk (h : Int)))) (hT : T.under ty = some (.slice e)) (hz : T.size e = some size) (hh : h ≤ n)
    (hk : SD P T X Q (c.put t (.slice (some ⟨b, off, none⟩) h (unk + size)) c.s.H)) : SD P T X Q c :=
 sd_val t _ c.s.H ho hs (aop_slice hA (aslice_hi hT hz hh)) hk
theorem tab_part {α : Type} {enc : α → List Value} {s : Nat} (hs : ∀ a, (enc a).length = s) (a b : List α) (new : List α) {n : Nat} (hn : n = a.length) {cells : List Value} (hc : cells = tab enc new) : (tab enc (a ++ b)).take (n * s) ++ cells = tab enc (a ++ new) := by
 subst hn hc
 rw [tab_app, tab_app, List.take_append_of_le_length (by rw [tab_len hs]; exact Nat.le_refl _), List.take_of_length_le (by rw [tab_len hs]; exact Nat.le_refl _)]
theorem tab_partN {α : Type} {enc : α → List Value} {s : Nat} (hs : ∀ a, (enc a).length = s) (a b new : List α) {n : Nat} (hn : n = a.length) {cells : List Value} (hc : cells = tab enc new) : (tab enc (a ++ b)).take (n * s) ++ cells = tab enc ((a ++ new) ++ []) := by
 rw [List.append_nil]; exact tab_part hs a b new hn hc
theorem tab_le {α : Type} {enc : α → List Value} {s : Nat} (hs : ∀ a, (enc a).length = s) (a b : List α) {n : Nat} (hn : n = a.length) : n * s ≤ (tab enc (a ++ b)).length := by
 subst hn
 rw [tab_len hs, List.length_append]
 exact Nat.mul_le_mul_right _ (Nat.le_add_right _ _)
theorem keep_of {l1 l2 : List (Option Ob)} {h : Heap} {n : Nat} (e : h = hq l1) (hp : l2.take n = l1.take n) : ∀ b, b < n → (hq l2).get b = h.get b := fun b hb => by
 rw [e, hq_get, hq_get]
 have h1 : (l2.take n)[b]? = (l1.take n)[b]? := by rw [hp]
 rw [List.getElem?_take_of_lt hb, List.getElem?_take_of_lt hb] at h1
 rw [h1]
theorem app_at {α : Type} {l m : List α} {k : Nat} {x : α} (h : l[k]? = some x) : (l ++ m)[k]? = some x := by
 rw [List.getElem?_append_left (List.getElem?_eq_some_iff.1 h).1]; exact h
theorem see_len {tm : Tr Value} {t : Nat} {a : Option Addr} {n m c : Nat} (h : tm.get t = some (.slice a n c)) (e : m = n) : tm.get t = some (.slice a m c) := by rw [e]; exact h
end Go.Ev
end
section
set_option linter.unusedVariables false
set_option linter.unusedSimpArgs false
namespace Go.Ev
theorem aappend_zero {T : Tab} {st xt e : TypeId} {xd : TypeDesc} {s0 by_ : Nat} {z : Value} (hu : T.under st = some (.slice e)) (hx : T.under xt = some xd) (hi : isIntD xd = false) (hs : T.size e = some (s0 + 1)) (hb : T.bytes e = some (by_ + 1)) (hz : T.zero e = some z)
    {H : Heap} {x : Value} {B n : Nat} {e' : TypeId} {new : List Value} (hget : H.get B = some ⟨[], e', false⟩) (hsrc : asrc (s0 + 1) x H = some (n, new)) (hn : 0 < n) (hne : blockOf x ≠ some B) (hbig : n * (by_ + 1) ≤ 140737488355328) :
    aappend T st xt (.slice (some ⟨B, 0, none⟩) 0 0) x H = some (.slice (some ⟨H.n, 0, none⟩) n (unk + (s0 + 1)), H.push ⟨new, e, false⟩) := by
 have en : n.beq 0 = false := by rw [beq_dec]; simp; omega
 have e1 : (blockOf x == some B) = false := by simpa using hne
 have e2 : unk.ble 0 = false := by rw [ble_dec]; simp [unk]
 have e3 : n.ble 0 = false := by rw [ble_dec]; simp; omega
 have e5 : (n * (by_ + 1)).ble 140737488355328 = true := by rw [ble_dec]; simp [hbig]
 have e6 : Nat.ble 0 0 = true := rfl
 unfold aappend
 simp only [hu, hx, hi, hs, hb, hz, hsrc, cond_false, e1, hget, e2, cond_true, en, Nat.zero_add, Nat.zero_mul, List.length_nil, e3, e5, Bool.and_self, Bool.and_false, Nat.add_zero, List.drop_nil, List.take_nil, List.nil_append, e6]
variable {P : Program} {T : Tab} {X : Cx} {Q : Xt → St → Prop} {c : Cf}
end Go.Ev
end
section
set_option linter.unusedVariables false
set_option linter.unusedSimpArgs false
namespace Go.Ev
theorem aappend_none0 {T : Tab} {st xt e : TypeId} {xd : TypeDesc} {s0 by_ : Nat} {z : Value} (hu : T.under st = some (.slice e)) (hx : T.under xt = some xd) (hi : isIntD xd = false) (hs : T.size e = some (s0 + 1)) (hb : T.bytes e = some (by_ + 1)) (hz : T.zero e = some z)
    {H : Heap} {x : Value} {B : Nat} (hget : H.get B = some ⟨[], e, false⟩) (hsrc : asrc (s0 + 1) x H = some (0, [])) (hne : blockOf x ≠ some B) :
    aappend T st xt (.slice (some ⟨B, 0, none⟩) 0 0) x H = some (.slice (some ⟨B, 0, none⟩) 0 (unk + (s0 + 1)), H) := by
 have e1 : (blockOf x == some B) = false := by simpa using hne
 have e2 : unk.ble 0 = false := by rw [ble_dec]; simp [unk]
 have e3 : Nat.ble 0 ([] : List Value).length = true := rfl
 unfold aappend
 simp only [hu, hx, hi, hs, hb, hz, hsrc, cond_false, e1, hget, e2, cond_true, Nat.beq_refl, Bool.and_self, e3]
section
variable {P : Program} {T : Tab} {X : Cx} {Q : Xt → St → Prop} {c : Vf}
end
end Go.Ev
end
section
namespace Go.Ev
open Go
set_option linter.unusedVariables false
set_option linter.unusedSimpArgs false
def Em.addx (e : Em) (b : Nat) (x : Option Nat) : Em := fun y => if y = b then some x else e y
theorem Em.addx_le {e : Em} {h H : Heap} (hn : HN e h H) (x : Option Nat) : e.le (e.addx h.n x) := fun y z k => by
 unfold Em.addx
 split
 ·rename_i q; rw [q] at k; exact absurd (hn.dom _ _ k) (by omega)
 ·exact k
theorem Em.addx_some {e : Em} {b : Nat} {x : Option Nat} {y : Nat} {z : Option Nat} (k : e.addx b x y = some z) : (y = b ∧ z = x) ∨ (y ≠ b ∧ e y = some z) := by
 unfold Em.addx at k
 split at k
 ·rename_i q; cases k; exact .inl ⟨q, rfl⟩
 ·rename_i q; exact .inr ⟨q, k⟩
theorem HN.sub {e : Em} {h H h2 : Heap} (hn : HN e h H) (hg : ∀ j o, h2.get j = some o → h.get j = some o) (hN : h2.n = h.n) : HN e h2 H ∧ Ex e e h H h2 H := by
 have lv : ∀ j, (h2.get j).isSome → (h.get j).isSome := fun j q => by
  obtain ⟨o, ho⟩ := Option.isSome_iff_exists.1 q
  rw [hg j o ho]; rfl
 refine ⟨⟨fun b o k => by rw [hN]; exact hn.wf b o (hg b o k), fun b x k => by rw [hN]; exact hn.dom b x k, hn.rng, fun b c o k1 k2 => hn.blk b c o (hg b o k1) k2, fun b o k1 k2 => hn.gh b o (hg b o k1) k2, fun b1 b2 c k1 k2 k3 k4 => hn.inj b1 b2 c k1 k2 (lv _ k3) (lv _ k4)⟩, ⟨fun _ _ k => k, fun _ _ k => .inl k, by omega, Nat.le_refl _, fun _ _ _ => rfl, fun b hb k => ?_⟩⟩
 cases q : h2.get b with
 | none => rfl
 | some o => rw [hg b o q] at k; cases k
theorem HN.alias {e : Em} {h H : Heap} (hn : HN e h H) {b : Nat} {x : Option Nat} {o : Ob} (hb : h.get b = some o) (hx : e b = some x) :
    HN (e.addx h.n x) ((h.kill b).push o) H ∧ Ex e (e.addx h.n x) h H ((h.kill b).push o) H := by
 have hle := Em.addx_le hn x
 have hbn := hn.wf _ _ hb
 have get : ∀ j, ((h.kill b).push o).get j = if j = h.n then some o else if j = b then none else h.get j := fun j => by rw [Heap.get_push, Heap.n_kill, Heap.get_kill]
 have old : ∀ {j o'}, ((h.kill b).push o).get j = some o' → j ≠ h.n → j ≠ b ∧ h.get j = some o' := fun {j o'} k q => by
  rw [get, if_neg q] at k
  split at k
  ·cases k
  ·rename_i q2; exact ⟨q2, k⟩
 refine ⟨⟨fun y o' k => ?_, fun y z k => ?_, fun y c k => ?_, fun y c o' k1 k2 => ?_, fun y o' k1 k2 => ?_, fun b1 b2 c k1 k2 k3 k4 => ?_⟩, ⟨hle, fun y z k => ?_, by simp [Heap.n_push, Heap.n_kill], Nat.le_refl _, fun _ _ _ => rfl, fun y hy k => ?_⟩⟩
 ·rw [Heap.n_push, Heap.n_kill]
  by_cases q : y = h.n
  ·omega
  ·have := hn.wf _ _ (old k q).2; omega
 ·rw [Heap.n_push, Heap.n_kill]
  rcases Em.addx_some k with ⟨rfl, _⟩ | ⟨_, k⟩
  ·omega
  ·have := hn.dom _ _ k; omega
 ·rcases Em.addx_some k with ⟨_, q⟩ | ⟨_, k⟩
  ·rw [← q] at hx; exact hn.rng _ _ hx
  ·exact hn.rng _ _ k
 ·rcases Em.addx_some k2 with ⟨rfl, q⟩ | ⟨q, k2⟩
  ·rw [get, if_pos rfl] at k1
   cases k1
   rw [← q] at hx
   obtain ⟨cs, g1, g2⟩ := hn.blk b c o hb hx
   exact ⟨cs, g1, g2.mono hle⟩
  ·obtain ⟨cs, g1, g2⟩ := hn.blk y c o' (old k1 q).2 k2
   exact ⟨cs, g1, g2.mono hle⟩
 ·rcases Em.addx_some k2 with ⟨rfl, q⟩ | ⟨q, k2⟩
  ·rw [get, if_pos rfl] at k1
   cases k1
   rw [← q] at hx
   exact hn.gh b o hb hx
  ·exact hn.gh y o' (old k1 q).2 k2
 ·have lv : ∀ {j}, (((h.kill b).push o).get j).isSome → j ≠ h.n → j ≠ b ∧ (h.get j).isSome := fun {j} k q => by
    obtain ⟨o', ho⟩ := Option.isSome_iff_exists.1 k
    obtain ⟨g1, g2⟩ := old ho q
    exact ⟨g1, by rw [g2]; rfl⟩
  rcases Em.addx_some k1 with ⟨rfl, q1⟩ | ⟨q1, k1⟩
  ·rcases Em.addx_some k2 with ⟨rfl, _⟩ | ⟨q2, k2⟩
   ·rfl
   ·obtain ⟨g1, g2⟩ := lv k4 q2
    rw [← q1] at hx
    exact absurd (hn.inj b2 b c k2 hx g2 (by rw [hb]; rfl)) g1
  ·rcases Em.addx_some k2 with ⟨rfl, q2⟩ | ⟨q2, k2⟩
   ·obtain ⟨g1, g2⟩ := lv k3 q1
    rw [← q2] at hx
    exact absurd (hn.inj b1 b c k1 hx g2 (by rw [hb]; rfl)) g1
   ·exact hn.inj b1 b2 c k1 k2 (lv k3 q1).2 (lv k4 q2).2
 ·rcases Em.addx_some k with ⟨rfl, rfl⟩ | ⟨_, k⟩
  ·exact .inr ⟨Nat.le_refl _, fun c q => .inr ⟨b, by rw [hx, q], by rw [hb]; rfl, by rw [get, if_neg (by omega), if_pos rfl]⟩⟩
  ·exact .inl k
 ·rw [get, if_neg (by omega)]
  split
  ·rfl
  ·exact k
theorem HN.ghost {e : Em} {h H : Heap} (hn : HN e h H) (el : TypeId) (ro : Bool) : HN (e.addx h.n none) (h.push ⟨[], el, ro⟩) H ∧ Ex e (e.addx h.n none) h H (h.push ⟨[], el, ro⟩) H := by
 have hle := Em.addx_le hn none
 have old : ∀ {j o'}, (h.push ⟨[], el, ro⟩).get j = some o' → j ≠ h.n → h.get j = some o' := fun {j o'} k q => by
  rw [Heap.get_push, if_neg q] at k; exact k
 refine ⟨⟨fun y o' k => ?_, fun y z k => ?_, fun y c k => ?_, fun y c o' k1 k2 => ?_, fun y o' k1 k2 => ?_, fun b1 b2 c k1 k2 k3 k4 => ?_⟩, ⟨hle, fun y z k => ?_, by simp [Heap.n_push], Nat.le_refl _, fun _ _ _ => rfl, fun y hy k => by rw [Heap.get_push, if_neg (by omega)]; exact k⟩⟩
 ·rw [Heap.n_push]
  by_cases q : y = h.n
  ·omega
  ·have := hn.wf _ _ (old k q); omega
 ·rw [Heap.n_push]
  rcases Em.addx_some k with ⟨rfl, _⟩ | ⟨_, k⟩
  ·omega
  ·have := hn.dom _ _ k; omega
 ·rcases Em.addx_some k with ⟨_, q⟩ | ⟨_, k⟩
  ·cases q
  ·exact hn.rng _ _ k
 ·rcases Em.addx_some k2 with ⟨_, q⟩ | ⟨q, k2⟩
  ·cases q
  ·obtain ⟨cs, g1, g2⟩ := hn.blk y c o' (old k1 q) k2
   exact ⟨cs, g1, g2.mono hle⟩
 ·rcases Em.addx_some k2 with ⟨rfl, _⟩ | ⟨q, k2⟩
  ·rw [Heap.get_push, if_pos rfl] at k1; cases k1; rfl
  ·exact hn.gh y o' (old k1 q) k2
 ·have lv : ∀ {j}, ((h.push ⟨[], el, ro⟩).get j).isSome → j ≠ h.n → (h.get j).isSome := fun {j} k q => by
    obtain ⟨o', ho⟩ := Option.isSome_iff_exists.1 k
    rw [old ho q]; rfl
  rcases Em.addx_some k1 with ⟨_, q1⟩ | ⟨q1, k1⟩
  ·cases q1
  ·rcases Em.addx_some k2 with ⟨_, q2⟩ | ⟨q2, k2⟩
   ·cases q2
   ·exact hn.inj b1 b2 c k1 k2 (lv k3 q1) (lv k4 q2)
 ·rcases Em.addx_some k with ⟨rfl, rfl⟩ | ⟨_, k⟩
  ·exact .inr ⟨Nat.le_refl _, fun c q => by cases q⟩
  ·exact .inl k
def Tell (tm : Tr Value) (h : Heap) (tm2 : Tr Value) (h2 : Heap) : Prop := ∀ e H tm', HN e h H → TE e tm tm' → ∃ e1, HN e1 h2 H ∧ Ex e e1 h H h2 H ∧ TE e1 tm2 tm'
theorem tell_alias {tm tm2 : Tr Value} {h : Heap} {t b len cap : Nat} {o : Ob} (g : h.get b = some o) (h1 : tm.get t = some (.slice (some ⟨b, 0, none⟩) len cap)) (hu : unk ≤ cap) (hl : o.cells = [] → len = 0)
    (h2 : ∀ j, tm2.get j = if j = t then some (.slice (some ⟨h.n, 0, none⟩) len cap) else tm.get j) : Tell tm h tm2 ((h.kill b).push o) := fun e H tm' hn ht => by
 obtain ⟨v', k1, k2⟩ := ht _ _ h1
 have key : ∃ x, e b = some x ∧ RN (e.addx h.n x) (.slice (some ⟨h.n, 0, none⟩) len cap) v' := by
  cases k2 with
  | same hp => simp [plain] at hp
  | slice hm => exact ⟨_, hm, .slice (by simp [Em.addx])⟩
  | nils hm hc => exact ⟨_, hm, .nils (by simp [Em.addx]) hc⟩
 obtain ⟨x, hx, hr⟩ := key
 obtain ⟨q1, q2⟩ := hn.alias g hx
 refine ⟨_, q1, q2, fun j v k => ?_⟩
 rw [h2] at k
 split at k
 ·rename_i q; subst q; cases k; exact ⟨v', k1, hr⟩
 ·obtain ⟨w, p1, p2⟩ := ht j v k
  exact ⟨w, p1, p2.mono q2.le⟩
theorem tell_ghost {tm tm2 : Tr Value} {h : Heap} {t cap : Nat} {el : TypeId} {ro : Bool} (h1 : tm.get t = some (.slice none 0 0)) (hu : unk ≤ cap)
    (h2 : ∀ j, tm2.get j = if j = t then some (.slice (some ⟨h.n, 0, none⟩) 0 cap) else tm.get j) : Tell tm h tm2 (h.push ⟨[], el, ro⟩) := fun e H tm' hn ht => by
 obtain ⟨v', k1, k2⟩ := ht _ _ h1
 cases k2.plain_eq rfl
 obtain ⟨q1, q2⟩ := hn.ghost el ro
 refine ⟨_, q1, q2, fun j v k => ?_⟩
 rw [h2] at k
 split at k
 ·rename_i q; subst q; cases k; exact ⟨_, k1, .nils (by simp [Em.addx]) hu⟩
 ·obtain ⟨w, p1, p2⟩ := ht j v k
  exact ⟨w, p1, p2.mono q2.le⟩
theorem tell_less {tm tm2 : Tr Value} {h h2 : Heap} (hg : ∀ j o, h2.get j = some o → h.get j = some o) (hN : h2.n = h.n) (ht2 : ∀ j, tm2.get j = tm.get j) : Tell tm h tm2 h2 := fun e H tm' hn ht => by
 obtain ⟨q1, q2⟩ := hn.sub hg hN
 exact ⟨e, q1, q2, fun j v k => ht j v (by rw [← ht2]; exact k)⟩
section
variable {P : Program} {T : Tab} {X : Cx} {Q : Xt → St → Prop}
theorem sd_tell {c : Cf} {tm2 : Tr Value} {h2 : Heap} (ht : Tell c.s.tm c.s.H tm2 h2) (hk : SD P T X Q ⟨c.n, c.p, c.K, ⟨tm2, h2⟩⟩) : SD P T X Q c := by
 intro e H tm' K' hx hte hK
 obtain ⟨e1, q1, q2, q3⟩ := ht e H tm' hx.hn hte
 exact hk e1 H tm' K' (hx.next X.ok q1 q2) q3 (KE.mono q2.le hK)
theorem asrc_len {size n : Nat} {x : Value} {H : Heap} {new : List Value} (h : asrc size x H = some (n, new)) : new.length = n * size := by
 unfold asrc at h
 split at h
 ·rename_i n' _
  cases hb : n'.beq 0
  ·rw [hb] at h; cases h
  ·rw [hb] at h; cases h; rw [Nat.zero_mul]; rfl
 ·split at h
  ·rename_i o ho
   simp only at h
   revert h
   generalize (List.take _ (List.drop _ o.cells)) = L
   intro h
   cases hb : (L.length.beq (_ * size))
   ·rw [hb] at h; cases h
   ·rw [hb] at h; cases h; exact Nat.eq_of_beq_eq_true hb
  ·cases h
 ·cases hb : size.beq 1
  ·rw [hb] at h; cases h
  ·rw [hb] at h
   cases h
   have : size = 1 := Nat.eq_of_beq_eq_true hb
   subst this
   simp
 ·cases h
theorem nil_of_len {l : List Value} {k : Nat} (h : l.length = 0 * k) : l = [] := List.eq_nil_of_length_eq_zero (by simpa using h)
theorem sd_firstN {c : Cf} (t : Nat) (st xt e : TypeId) (s0 by_ n nb : Nat) (x : Value) (new ys : List Value) (ho : okOp c t = true) (hs : strictC c = true) (hA : apOf c = some (st, xt, .slice none 0 0, x)) (hT : apTab T st xt = some (e, s0, by_))
    (hsrc : asrc (s0 + 1) x c.s.H = some (n, new)) (hbig : n * (by_ + 1) ≤ 140737488355328) (hnb : c.s.H.n = nb) (hy : new = ys)
    (hk : SD P T X Q (c.put t (.slice (some ⟨nb, 0, none⟩) n (unk + (s0 + 1))) (c.s.H.push ⟨ys, e, false⟩))) : SD P T X Q c := by
 rcases Nat.eq_zero_or_pos n with rfl | hn
 ·obtain ⟨k1, ⟨xd, k2, k3⟩, k4, k5, z, k6⟩ := apTab_spec hT
  subst hnb hy
  have h0 := nil_of_len (asrc_len hsrc)
  subst h0
  refine sd_ap t st xt _ x (.slice none 0 0) c.s.H ho hs hA (by unfold aappend; simp only [k1, k2, k3, k4, k5, k6, hsrc, cond_false, cond_true, Nat.beq_refl, Bool.and_self]) ?_
  exact sd_tell (tell_ghost (t := t) (cap := unk + (s0 + 1)) (el := e) (ro := false) (by show (c.s.tm.put t _).get t = _; rw [Tr.get_put, if_pos rfl]) (Nat.le_add_right _ _) (fun j => by show (c.s.tm.put t _).get j = if j = t then _ else (c.s.tm.put t _).get j; rw [Tr.get_put, Tr.get_put]; split <;> rfl)) hk
 ·exact sd_first t st xt e s0 by_ n nb x new ys ho hs hA hT hsrc hn hbig hnb hy hk
theorem sd_first0N {c : Cf} (t : Nat) (st xt e : TypeId) (s0 by_ b n nb : Nat) (x : Value) (new ys : List Value) (ho : okOp c t = true) (hs : strictC c = true) (hA : apOf c = some (st, xt, .slice (some ⟨b, 0, none⟩) 0 0, x)) (hT : apTab T st xt = some (e, s0, by_))
    (g : c.s.H.get b = some ⟨[], e, false⟩) (hsrc : asrc (s0 + 1) x c.s.H = some (n, new)) (hne : (blockOf x == some b) = false) (hbig : n * (by_ + 1) ≤ 140737488355328) (hnb : c.s.H.n = nb) (hy : new = ys) (hbn : b.blt nb = true)
    (hk : SD P T X Q (c.put t (.slice (some ⟨nb, 0, none⟩) n (unk + (s0 + 1))) ((c.s.H.kill b).push ⟨ys, e, false⟩))) : SD P T X Q c := by
 obtain ⟨k1, ⟨xd, k2, k3⟩, k4, k5, z, k6⟩ := apTab_spec hT
 have hlt : b < nb := Nat.le_of_ble_eq_true hbn
 subst hnb
 rcases Nat.eq_zero_or_pos n with rfl | hn
 ·have h0 := nil_of_len (asrc_len hsrc)
  subst h0
  subst hy
  refine sd_ap t st xt _ x _ c.s.H ho hs hA (aappend_none0 k1 k2 k3 k4 k5 k6 g hsrc (by simpa using hne)) ?_
  exact sd_tell (tell_alias (t := t) (o := ⟨[], e, false⟩) g (by show (c.s.tm.put t _).get t = _; rw [Tr.get_put, if_pos rfl]) (Nat.le_add_right _ _) (fun _ => rfl) (fun j => by show (c.s.tm.put t _).get j = if j = t then _ else (c.s.tm.put t _).get j; rw [Tr.get_put, Tr.get_put]; split <;> rfl)) hk
 ·subst hy
  refine sd_ap t st xt _ x _ _ ho hs hA (aappend_zero k1 k2 k3 k4 k5 k6 g hsrc hn (by simpa using hne) hbig) ?_
  refine sd_tell (tell_less (h2 := (c.s.H.kill b).push ⟨new, e, false⟩) (fun j o q => ?_) rfl fun j => rfl) hk
  show (c.s.H.push _).get j = _
  rw [Heap.get_push, Heap.n_kill, Heap.get_kill] at q
  rw [Heap.get_push]
  split at q
  ·rename_i r; rw [if_pos r]; exact q
  ·rename_i r
   rw [if_neg r]
   split at q
   ·cases q
   ·exact q
def eqnOf (c : Cf) : Option (TypeId × Value) := match (opC c).op with
 | .binOp .eql t x y _ => (match aeval c.s.tm x, aeval c.s.tm y with | some u, some (.slice none 0 0) => some (t, u) | _, _ => none)
 | _ => none
theorem sd_eqnil {c : Cf} (t b off n cap : Nat) (ty el : TypeId) (ho : okOp c t = true) (hg : guardP c.s.tm (opsC c) (opC c) = true) (hp : (opC c).op.operands.toList.all (pres c.s.tm) = true) (hA : eqnOf c = some (ty, .slice (some ⟨b, off, none⟩) n cap)) (hT : T.under ty = some (.slice el))
    (hk1 : n = 0 → SD P T X Q (c.put t (.bool true) c.s.H)) (hk2 : SD P T X Q (c.put t (.bool false) c.s.H)) : SD P T X Q c := by
 intro e H tm' K' hx ht hK
 have haw := awanted_rn (ops := opsC c) (o := opC c) ht hg
 have ho' : okOp ⟨c.n, c.p, K', ⟨tm', H⟩⟩ t = true := by
  unfold okOp at ho ⊢
  rw [show awanted (opsC ⟨c.n, c.p, K', ⟨tm', H⟩⟩) (⟨tm', H⟩ : St).tm (opC ⟨c.n, c.p, K', ⟨tm', H⟩⟩) = awanted (opsC c) c.s.tm (opC c) from haw]
  exact ho
 have hop := ht.op hp
 unfold eqnOf at hA
 split at hA
 ·rename_i ty' x y po hq
  split at hA
  ·rename_i u e1 e2
   cases hA
   obtain ⟨u', f1, f2⟩ := hop x (by rw [hq]; simp [Op.operands]) _ e1
   obtain ⟨v', f3, f4⟩ := hop y (by rw [hq]; simp [Op.operands]) _ e2
   cases f4.plain_eq rfl
   have hq' : (opC (⟨c.n, c.p, K', ⟨tm', H⟩⟩ : Cf)).op = .binOp .eql ty x y po := hq
   have he : ∀ (w : Bool), abin T .eql ty u' (.slice none 0 0) = some (.bool w) → aop P T tm' (opC (⟨c.n, c.p, K', ⟨tm', H⟩⟩ : Cf)) H = some (.val (.bool w), H) := fun w hw => by
    unfold aop
    simp only [hq', f1, f3, hw, orVal, val]
   cases f2 with
   | same q => simp [plain] at q
   | slice hm => exact cf_val t (.bool false) H ho' (he false (by simp only [abin, hT])) (hk2 e H _ K' hx (ht.put t (.same rfl)) hK)
   | nils hm hc => exact cf_val t (.bool true) H ho' (he true (by simp only [abin, hT]; rfl)) (hk1 rfl e H _ K' hx (ht.put t (.same rfl)) hK)
  ·cases hA
 ·cases hA
end
end Go.Ev
end
section
namespace Go.Ev
open Go
set_option linter.unusedVariables false
set_option linter.unusedSimpArgs false
def Qf.keep (c : Qf) (t : Nat) (v : Value) : Qf := ⟨c.n, c.ops, c.lz, c.k + 1, c.l.tail, c.K, ⟨c.s.tm.put t (some v), c.s.H⟩, c.rd⟩
def Rds2 (T : Tab) (e : Em) (ops : Array Oper) (acc : List St) (rd : List (Nat × Value × Value)) : Prop := ∀ r ∈ rd, (r.1 < acc.length → ∃ s o x u' v', RdE T e ops acc r.1 r.2.1 r.2.2 s o x u' v') ∧ (acc.length ≤ r.1 → (∃ u', RN e r.2.1 u') ∧ veq r.2.2 r.2.2 = true)
theorem RdE.mono {T : Tab} {e e1 : Em} {ops : Array Oper} {acc : List St} {i : Nat} {u v : Value} {s : St} {o : Oper} {x : Operand} {u' v' : Value} (he : e.le e1) (k : RdE T e ops acc i u v s o x u' v') (y : List St) : RdE T e1 ops (acc ++ y) i u v s o x u' v' :=
 ⟨by rw [List.getElem?_append_left (List.getElem?_eq_some_iff.1 k.at_).1]; exact k.at_, k.op, k.want, k.arg, k.ev, k.ru.mono he, k.look, k.rv.mono he, k.vv⟩
theorem Rds2.mono {T : Tab} {e e1 : Em} {ops : Array Oper} {acc : List St} {rd : List (Nat × Value × Value)} (he : e.le e1) (h : Rds2 T e ops acc rd) (hn : ∀ r ∈ rd, r.1 ≠ acc.length) (y : St) : Rds2 T e1 ops (acc ++ [y]) rd := fun r hr => by
 have hne := hn r hr
 refine ⟨fun hlt => ?_, fun hle => ?_⟩
 ·rw [List.length_append] at hlt
  simp only [List.length_cons, List.length_nil] at hlt
  obtain ⟨s, o, x, u', v', k⟩ := (h r hr).1 (by omega)
  exact ⟨s, o, x, u', v', k.mono he _⟩
 ·rw [List.length_append] at hle
  simp only [List.length_cons, List.length_nil] at hle
  obtain ⟨⟨u', hu⟩, hv⟩ := (h r hr).2 (by omega)
  exact ⟨⟨u', hu.mono he⟩, hv⟩
structure PmE (T : Tab) (e : Em) (ops : Array Oper) (r : List St) (p : Nat × Nat) (q : Nat × Value × Value) (u' v' : Value) (s1 s2 : St) : Prop where
 i : q.1 = p.1
 ru : RN e q.2.1 u'
 rv : RN e q.2.2 v'
 vv : veq v' v' = true
 at1 : r[p.2]? = some s1
 at2 : r[p.2 + 1]? = some s2
 look1 : alook T (opAt ops p.1) u' s1.H = some v'
 look2 : alook T (opAt ops p.1) u' s2.H = some v'
def Pairs2 (T : Tab) (e : Em) (ops : Array Oper) (k : Nat) (rd : List (Nat × Value × Value)) (r : List St) : Prop := ∀ p ∈ loose T ops, p.2 < k → (p.1 < k → steady T ops r p = true) ∧ (k ≤ p.1 → ∃ q ∈ rd, ∃ u' v' s1 s2, PmE T e ops r p q u' v' s1 s2)
theorem PmE.mono {T : Tab} {e e1 : Em} {ops : Array Oper} {r : List St} {p : Nat × Nat} {q : Nat × Value × Value} {u' v' : Value} {s1 s2 : St} (he : e.le e1) (k : PmE T e ops r p q u' v' s1 s2) (y : List St) : PmE T e1 ops (r ++ y) p q u' v' s1 s2 :=
 ⟨k.i, k.ru.mono he, k.rv.mono he, k.vv, by rw [List.getElem?_append_left (List.getElem?_eq_some_iff.1 k.at1).1]; exact k.at1, by rw [List.getElem?_append_left (List.getElem?_eq_some_iff.1 k.at2).1]; exact k.at2, k.look1, k.look2⟩
section
variable (P : Program) (T : Tab) (X : Cx)
def SR (Q : Xt → St → Prop) (c : Qf) : Prop := loose T c.ops = c.lz → c.ops.toList.drop c.k = c.l → ∀ e H tm' K' acc, CX X e c.s.H H → TE e c.s.tm tm' → KE X c.K e K' → acc.length = c.k → Rds2 T e c.ops acc c.rd → Pairs2 T e c.ops c.k c.rd (acc ++ [⟨tm', H⟩]) →
 ATr P T c.n c.ops c.l acc (fun r s => (loose T c.ops).all (steady T c.ops r) = true ∧ Den P T ⟨c.n, .done .normal, K', s⟩ Q) ⟨tm', H⟩
end
section
variable {P : Program} {T : Tab} {X : Cx} {Q : Xt → St → Prop} {c : Qf}
theorem Pairs2.cons {T : Tab} {e : Em} {ops : Array Oper} {k : Nat} {rd : List (Nat × Value × Value)} {r : List St} (h : Pairs2 T e ops k rd r) (x : Nat × Value × Value) : Pairs2 T e ops k (x :: rd) r := fun p hm hlt => ⟨(h p hm hlt).1, fun hl => by
 obtain ⟨q, hq, y⟩ := (h p hm hlt).2 hl
 exact ⟨q, List.mem_cons_of_mem _ hq, y⟩⟩
end
attribute [irreducible] SR
end Go.Ev
end
