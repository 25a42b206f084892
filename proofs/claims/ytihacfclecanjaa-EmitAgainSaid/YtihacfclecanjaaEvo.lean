/- Memory under other names: regions whose order is drawn, where a read comes behind an act in the text and may be drawn ahead of it: what it will read is promised ahead of the act. -/
import Derived.Test.YtihacfclecanjaaEve
set_option linter.unusedVariables false
set_option linter.unusedSimpArgs false
namespace Go.Ev
open Go
def Qf.pm (c : Qf) : Bool := c.rd.any fun r => r.1.beq c.k
def Qf.part2 (c : Qf) : Bool := c.part || c.pm
def Qf.prom (c : Qf) (i : Nat) (u v : Value) : Qf := ⟨c.n, c.ops, c.lz, c.k, c.l, c.K, c.s, (i, u, v) :: c.rd⟩
def Qf.keep (c : Qf) (t : Nat) (v : Value) : Qf := ⟨c.n, c.ops, c.lz, c.k + 1, c.l.tail, c.K, ⟨c.s.tm.put t (some v), c.s.H⟩, c.rd⟩
def QOk2 (T : Tab) (c : Qf) (h1 : Heap) : Prop := c.pm = false ∧ QOk T c h1
def Rds2 (T : Tab) (e : Em) (ops : Array Oper) (acc : List St) (rd : List (Nat × Value × Value)) : Prop := ∀ r ∈ rd, (r.1 < acc.length → ∃ s o x u' v', RdE T e ops acc r.1 r.2.1 r.2.2 s o x u' v') ∧ (acc.length ≤ r.1 → (∃ u', RN e r.2.1 u') ∧ veq r.2.2 r.2.2 = true)
theorem RdE.mono {T : Tab} {e e1 : Em} {ops : Array Oper} {acc : List St} {i : Nat} {u v : Value} {s : St} {o : Oper} {x : Operand} {u' v' : Value} (he : e.le e1) (k : RdE T e ops acc i u v s o x u' v') (y : List St) : RdE T e1 ops (acc ++ y) i u v s o x u' v' :=
 ⟨by rw [List.getElem?_append_left (List.getElem?_eq_some_iff.1 k.at_).1]; exact k.at_, k.op, k.want, k.arg, k.ev, k.ru.mono he, k.look, k.rv.mono he, k.vv⟩
theorem Rds2.mono {T : Tab} {e e1 : Em} {ops : Array Oper} {acc : List St} {rd : List (Nat × Value × Value)} (he : e.le e1) (h : Rds2 T e ops acc rd) (hn : ∀ r ∈ rd, r.1 ≠ acc.length) (y : St) : Rds2 T e1 ops (acc ++ [y]) rd := fun r hr => by
 have hne := hn r hr;refine ⟨fun hlt => ?_, fun hle => ?_⟩
 ·rw [List.length_append] at hlt;simp only [List.length_cons, List.length_nil] at hlt;obtain ⟨s, o, x, u', v', k⟩ := (h r hr).1 (by omega);exact ⟨s, o, x, u', v', k.mono he _⟩
 ·rw [List.length_append] at hle;simp only [List.length_cons, List.length_nil] at hle;obtain ⟨⟨u', hu⟩, hv⟩ := (h r hr).2 (by omega);exact ⟨⟨u', hu.mono he⟩, hv⟩
structure PmE (T : Tab) (e : Em) (ops : Array Oper) (r : List St) (p : Nat × Nat) (q : Nat × Value × Value) (u' v' : Value) (s1 s2 : St) : Prop where
 i : q.1 = p.1
 ru : RN e q.2.1 u'
 rv : RN e q.2.2 v'
 vv : veq v' v' = true
 at1 : r[p.2]? = some s1
 at2 : r[p.2 + 1]? = some s2
 look1 : alook T (opAt ops p.1) u' s1.H = some v'
 look2 : alook T (opAt ops p.1) u' s2.H = some v'
def Pairs2 (T : Tab) (e : Em) (ops : Array Oper) (k : Nat) (rd : List (Nat × Value × Value)) (r : List St) : Prop := ∀ p ∈ loose T ops, p.2 < k → (p.1 < k → steady T ops r p = true) ∧ (k ≤ p.1 → ∃ q ∈ rd, ∃ u' v' s1 s2, PmE T e ops r p q u' v' s1 s2)
theorem PmE.mono {T : Tab} {e e1 : Em} {ops : Array Oper} {r : List St} {p : Nat × Nat} {q : Nat × Value × Value} {u' v' : Value} {s1 s2 : St} (he : e.le e1) (k : PmE T e ops r p q u' v' s1 s2) (y : List St) : PmE T e1 ops (r ++ y) p q u' v' s1 s2 :=
 ⟨k.i, k.ru.mono he, k.rv.mono he, k.vv, by rw [List.getElem?_append_left (List.getElem?_eq_some_iff.1 k.at1).1]; exact k.at1, by rw [List.getElem?_append_left (List.getElem?_eq_some_iff.1 k.at2).1]; exact k.at2, k.look1, k.look2⟩
theorem loose_lt1 {T : Tab} {ops : Array Oper} {p : Nat × Nat} (hp : p ∈ loose T ops) : p.1 < ops.size := by
 unfold loose at hp;rw [List.mem_flatMap] at hp;obtain ⟨i', hi', hp⟩ := hp;obtain ⟨j', hj', hp⟩ := List.mem_filterMap.1 hp
 have : p = (i', j') := by
  split at hp
  ·revert hp; generalize i'.blt j' = b1; intro hp;cases b1 <;> simp only [cond_false, cond_true] at hp
   ·revert hp; generalize Nat.testBit _ _ = b2; intro hp; cases b2 <;> simp only [cond_false, cond_true] at hp <;> cases hp; rfl
   ·revert hp; generalize Nat.testBit _ _ = b2; intro hp; cases b2 <;> simp only [cond_false, cond_true] at hp <;> cases hp; rfl
  ·cases hp
 subst this;simpa using hi'
section
variable (P : Program) (T : Tab) (X : Cx)
def SR (Q : Xt → St → Prop) (c : Qf) : Prop := loose T c.ops = c.lz → c.ops.toList.drop c.k = c.l → ∀ e H tm' K' acc, CX X e c.s.H H → TE e c.s.tm tm' → KE X c.K e K' → acc.length = c.k → Rds2 T e c.ops acc c.rd → Pairs2 T e c.ops c.k c.rd (acc ++ [⟨tm', H⟩]) →
 ATr P T c.n c.ops c.l acc (fun r s => (loose T c.ops).all (steady T c.ops r) = true ∧ Den P T ⟨c.n, .done .normal, K', s⟩ Q) ⟨tm', H⟩
def stepR (c : Qf) : Option Qf := bif c.part2 || c.lk then none else match c.l with
 | [] => none
 | o :: _ =>
  bif strictO c.s.tm c.ops o then
   bif awanted c.ops c.s.tm o then
    match aop P T c.s.tm o c.s.H with
    | some (.val v, h) => finQ c o v h
    | some (.skip, h) => finQ c o undef h
    | some (.enter f args, h) => match T.orc f args.toList with | some v => finQ c o v h | none => none
    | none => none
   else finQ c o undef c.s.H
  else none
def goR : Nat → Qf → Qf
 | 0, c => c
 | k + 1, c => match stepR P T c with
  | some c' => goR k c'
  | none => c
end
section
variable {P : Program} {T : Tab} {X : Cx} {Q : Xt → St → Prop} {c : Qf}
theorem pm_no {c : Qf} {acc : List St} (hacc : acc.length = c.k) (h : c.pm = false) : ∀ r ∈ c.rd, r.1 ≠ acc.length := fun r hr q => by
 have : c.pm = true := List.any_eq_true.2 ⟨r, hr, by rw [q, hacc]; exact Nat.beq_refl _⟩;rw [h] at this; cases this
theorem pairs_old {T : Tab} {c : Qf} {e e1 : Em} {H : Heap} {tm' : Tr Value} {acc : List St} (he : e.le e1) (hp : Pairs2 T e c.ops c.k c.rd (acc ++ [⟨tm', H⟩])) (hq : c.pm = false) (S1 : St) (p : Nat × Nat) (hm : p ∈ loose T c.ops) (h : p.2 < c.k) : (p.1 < c.k + 1 → steady T c.ops ((acc ++ [⟨tm', H⟩]) ++ [S1]) p = true) ∧ (c.k + 1 ≤ p.1 → ∃ q ∈ c.rd, ∃ u' v' s1 s2, PmE T e1 c.ops ((acc ++ [⟨tm', H⟩]) ++ [S1]) p q u' v' s1 s2) := by
 obtain ⟨a, b⟩ := hp p hm h;refine ⟨fun hlt => ?_, fun hle => ?_⟩
 ·rcases (by omega : p.1 < c.k ∨ p.1 = c.k) with g | g
  ·exact steady_app (a g) _
  ·obtain ⟨q, hqm, _, _, _, _, k⟩ := b (by omega);have : c.pm = true := List.any_eq_true.2 ⟨q, hqm, by rw [k.i, g]; exact Nat.beq_refl _⟩;rw [hq] at this; cases this
 ·obtain ⟨q, hqm, u', v', s1, s2, k⟩ := b (by omega);exact ⟨q, hqm, u', v', s1, s2, k.mono he _⟩
theorem Pairs2.cons {T : Tab} {e : Em} {ops : Array Oper} {k : Nat} {rd : List (Nat × Value × Value)} {r : List St} (h : Pairs2 T e ops k rd r) (x : Nat × Value × Value) : Pairs2 T e ops k (x :: rd) r := fun p hm hlt => ⟨(h p hm hlt).1, fun hl => by
 obtain ⟨q, hq, y⟩ := (h p hm hlt).2 hl
 exact ⟨q, List.mem_cons_of_mem _ hq, y⟩⟩
theorem pairs_no2 {T : Tab} {c : Qf} {e e1 : Em} {H : Heap} {tm' : Tr Value} {acc : List St} (he : e.le e1) (hlz : loose T c.ops = c.lz) (hp : Pairs2 T e c.ops c.k c.rd (acc ++ [⟨tm', H⟩])) (hq : c.part2 = false) (S1 : St) : Pairs2 T e1 c.ops (c.k + 1) c.rd ((acc ++ [⟨tm', H⟩]) ++ [S1]) := fun p hm hlt => by
 unfold Qf.part2 at hq;rw [Bool.or_eq_false_iff] at hq;rcases (by omega : p.2 < c.k ∨ p.2 = c.k) with h | h
 ·exact pairs_old he hp hq.2 S1 p hm h
 ·exfalso;rw [hlz] at hm;have : c.part = true := List.any_eq_true.2 ⟨p, hm, by rw [h]; exact Nat.beq_refl _⟩;rw [hq.1] at this; cases this
theorem pairs_ok2 {e e1 : Em} {h1 H H1 : Heap} {tm' : Tr Value} {acc : List St} (hlz : loose T c.ops = c.lz) (hacc : acc.length = c.k) (hrd : Rds2 T e c.ops acc c.rd) (hn : HN e c.s.H H) (hn1 : HN e1 h1 H1) (he : e.le e1) (hp : Pairs2 T e c.ops c.k c.rd (acc ++ [⟨tm', H⟩])) (hq : QOk2 T c h1) (tm1 : Tr Value) : Pairs2 T e1 c.ops (c.k + 1) c.rd ((acc ++ [⟨tm', H⟩]) ++ [⟨tm1, H1⟩]) := fun p hm hlt => by
 obtain ⟨hpm, q1, q2, q3⟩ := hq;rcases (by omega : p.2 < c.k ∨ p.2 = c.k) with h | h
 ·exact pairs_old he hp hpm _ p hm h
 ·have hm0 := hm;rw [hlz] at hm;have := List.all_eq_true.1 q1 p hm;rw [h, Nat.beq_refl, Bool.not_true, Bool.false_or, List.any_eq_true] at this;obtain ⟨r, hr, hri⟩ := this;have hri := Nat.eq_of_beq_eq_true hri;have hrs : r ∈ c.rs := List.mem_filter.2 ⟨hr, List.any_eq_true.2 ⟨p, hm, by rw [Bool.and_eq_true, h, hri]; exact ⟨Nat.beq_refl _, Nat.beq_refl _⟩⟩⟩;have g2 := List.map_inj_left.1 q2 r hrs;have g3 := List.map_inj_left.1 q3 r hrs;have hne := pm_no hacc hpm r hr
  have i2 : ((acc ++ [⟨tm', H⟩]) ++ [(⟨tm1, H1⟩ : St)])[p.2]? = some ⟨tm', H⟩ := by
   rw [h, ← hacc, List.getElem?_append_left (by simp), List.getElem?_append_right (by omega)]; simp
  have i3 : ((acc ++ [⟨tm', H⟩]) ++ [(⟨tm1, H1⟩ : St)])[p.2 + 1]? = some ⟨tm1, H1⟩ := by
   rw [h, ← hacc, List.getElem?_append_right (by simp)]; simp
  refine ⟨fun hlt1 => ?_, fun hle => ?_⟩
  ·obtain ⟨s, o, x, u', v', k⟩ := (hrd r hr).1 (by omega);have hop : opAt c.ops r.1 = o.op := by unfold opAt; rw [k.op]; rfl
   simp only [hop] at g2 g3;obtain ⟨w, a1, a2⟩ := alook_rn g2 hn k.ru;obtain ⟨w1, b1, b2⟩ := alook_rn g3 hn1 (k.ru.mono he);have e2 : w = v' := a2.inj k.rv;have e3 : w1 = v' := b2.inj (k.rv.mono he);subst e2 e3;have hlt2 : r.1 < acc.length := (List.getElem?_eq_some_iff.1 k.at_).1;unfold steady
   have i1 : ((acc ++ [⟨tm', H⟩]) ++ [⟨tm1, H1⟩])[p.1]? = some s := by
    rw [← hri, List.getElem?_append_left (by simp; omega), List.getElem?_append_left hlt2]; exact k.at_
   rw [i1, ← hri, k.op];simp only [k.want, cond_true, k.arg, k.ev, k.look, hri, i2, i3, a1, b1, k.vv, Bool.and_self]
  ·obtain ⟨⟨u', hu⟩, hv⟩ := (hrd r hr).2 (by omega);obtain ⟨w, a1, a2⟩ := alook_rn g2 hn hu;obtain ⟨w1, b1, b2⟩ := alook_rn g3 hn1 (hu.mono he);have e3 : w1 = w := b2.inj (a2.mono he);subst e3;exact ⟨r, hr, u', w1, _, _, ⟨hri, hu.mono he, a2.mono he, veq_rn a2 hv, i2, i3, by rw [← hri]; exact a1, by rw [← hri]; exact b1⟩⟩
theorem sr_end (he : c.l.isEmpty = true) (hk : SD P T X Q ⟨c.n, .done .normal, c.K, c.s⟩) : SR P T X Q c := fun hz hd e H tm' K' acc hx ht hK hacc hr hp => atr_end he ⟨by
 rw [List.all_eq_true];intro p hm;have h1 := loose_lt hm;have h0 := loose_lt1 hm;have h2 : c.l = [] := by simpa using he
 rw [h2, List.drop_eq_nil_iff] at hd;simp at hd
 exact (hp p hm (by omega)).1 (by omega), hk e H tm' K' hx ht hK⟩
theorem sr_prom (i t0 b off0 off : Nat) (v : Value) (h0 : c.s.tm.get t0 = some (.pointer (some ⟨b, off0, none⟩))) (hi : c.k.ble i = true) (hv : veq v v = true) (hk : SR P T X Q (c.prom i (.pointer (some ⟨b, off, none⟩)) v)) : SR P T X Q c := by
 intro hz hd e H tm' K' acc hx ht hK hacc hr hp;obtain ⟨w, h1, h2⟩ := ht _ _ h0
 have hu : ∃ u', RN e (.pointer (some ⟨b, off, none⟩)) u' := by
  cases h2 with
  | same h => cases h
  | ptr h => exact ⟨_, .ptr h⟩
 refine hk hz hd e H tm' K' acc hx ht hK hacc (fun r hrm => ?_) (fun p hm hlt => ?_)
 ·rcases List.mem_cons.1 hrm with rfl | hrm
  ·exact ⟨fun h => by have := Nat.le_of_ble_eq_true hi; simp only at h; omega, fun _ => ⟨hu, hv⟩⟩
  ·exact hr r hrm
 ·obtain ⟨a, b⟩ := hp p hm hlt;exact ⟨a, fun h => by obtain ⟨q, hq, x⟩ := b h; exact ⟨q, List.mem_cons_of_mem _ hq, x⟩⟩
theorem sd_drawR {d : Cf} (lz : List (Nat × Nat)) (h : atD d = true) (hz : loose T (opsD d) = lz) (hk : SR P T X Q ⟨d.n, opsD d, lz, 0, (opsD d).toList, d.K, d.s, []⟩) : SD P T X Q d := by
 intro e H tm' K' hx ht hK;have h' : atD ⟨d.n, d.p, K', ⟨tm', H⟩⟩ = true := by unfold atD at h ⊢; exact h
 refine cf_drawW h' ?_;exact hk hz rfl e H tm' K' [] hx ht hK rfl (fun r hr => by cases hr) (fun p _ hp => absurd hp (Nat.not_lt_zero _))
theorem sr_look (t : Nat) (v u : Value) (x : Operand) (ho : okV c.n c.ops c.s c.l t = true) (hs : strictQ c = true) (hx0 : lookArg (hdO c.l).op = some x) (hu : aeval c.s.tm x = some u) (hv : alook T (hdO c.l).op u c.s.H = some v) (hvv : veq v v = true) (hpt : c.part2 = false) (hk : SR P T X Q (c.putR t u v)) : SR P T X Q c := by
 have ha := look_aop (P := P) hx0 hu hv;intro hz hd e H tm' K' acc hx ht hK hacc hr hp;have hs' := hs;unfold strictQ at hs';simp only [Bool.and_eq_true] at hs'
 have hxm : x ∈ (hdO c.l).op.operands.toList := by
  revert hx0;generalize (hdO c.l).op = op;intro hx0;unfold lookArg at hx0;split at hx0 <;> cases hx0 <;> simp [Op.operands]
 obtain ⟨u', k1, k2⟩ := ht.op hs'.2.1 x hxm u hu;obtain ⟨v', k3, k4⟩ := alook_rn hv hx.hn k2;have hlook : aop P T tm' (hdO c.l) H = some (.val v', H) := look_aop hx0 k1 k3;have hok := big_okQ (H := H) ho hs ht
 have hne : c.l.isEmpty = false := by
  have := (okV_spec hok).1;rw [this]; rfl
 have hpt0 := hpt;unfold Qf.part2 at hpt0;rw [Bool.or_eq_false_iff] at hpt0;have hpn := pairs_no2 (Em.le_refl e) hz hp hpt ⟨tm'.put t (some v'), H⟩;refine atr_val1 t v' H hok hlook (hk hz (drop_hd hd) e H _ K' _ hx (ht.put t k4) hK (by simp [hacc, Qf.putR]) (fun r hr2 => ?_) (hpn.cons _));rcases List.mem_cons.1 hr2 with rfl | hr2
 ·exact ⟨fun _ => ⟨_, hdO c.l, x, u', v', ⟨by rw [← hacc]; simp, hd_at hd hne, (okV_spec hok).2.1, hx0, k1, k2, k3, k4, veq_rn k4 hvv⟩⟩, fun h => by simp [hacc] at h; omega⟩
 ·exact hr.mono (Em.le_refl _) (pm_no hacc hpt0.2) _ r hr2
theorem sr_keep (t : Nat) (v u : Value) (ty : TypeId) (rd0 : List (Nat × Value × Value)) (ho : okV c.n c.ops c.s c.l t = true) (hs : strictQ c = true) (h1 : ldQ c = some (ty, u)) (hl : aload T ty u c.s.H = some v) (hvv : veq v v = true) (hpt : c.part = false) (hrd : c.rd = (c.k, u, v) :: rd0) (hn0 : (rd0.any fun r => r.1.beq c.k) = false) (hk : SR P T X Q (c.keep t v)) : SR P T X Q c := by
 unfold ldQ at h1;split at h1
 case h_2 => cases h1
 rename_i ty' a hop;split at h1
 case h_2 => cases h1
 rename_i w hu;cases h1;have hx0 : lookArg (hdO c.l).op = some a := by rw [hop]; rfl
 have hv : alook T (hdO c.l).op u c.s.H = some v := by rw [hop]; exact hl
 intro hz hd e H tm' K' acc hx ht hK hacc hr hp;have hs' := hs;unfold strictQ at hs';simp only [Bool.and_eq_true] at hs';have hxm : a ∈ (hdO c.l).op.operands.toList := by rw [hop]; simp [Op.operands]
 obtain ⟨u', k1, k2⟩ := ht.op hs'.2.1 a hxm u hu;obtain ⟨v', k3, k4⟩ := alook_rn hv hx.hn k2;have hlook : aop P T tm' (hdO c.l) H = some (.val v', H) := look_aop hx0 k1 k3;have hok := big_okQ (H := H) ho hs ht
 have hne : c.l.isEmpty = false := by
  have := (okV_spec hok).1;rw [this]; rfl
 have hno : ∀ r ∈ rd0, r.1 ≠ c.k := fun r hr q => by
  have : (rd0.any fun r => r.1.beq c.k) = true := List.any_eq_true.2 ⟨r, hr, by rw [q]; exact Nat.beq_refl _⟩;rw [hn0] at this; cases this
 have hcur : (acc ++ [(⟨tm', H⟩ : St)])[c.k]? = some ⟨tm', H⟩ := by rw [← hacc]; simp
 have hopk : opAt c.ops c.k = (hdO c.l).op := by unfold opAt; rw [hd_at hd hne]; rfl
 refine atr_val1 t v' H hok hlook (hk hz (drop_hd hd) e H _ K' _ hx (ht.put t k4) hK (by simp [hacc, Qf.keep]) (fun r hr2 => ?_) (fun p hm hlt => ?_))
 ·rw [show (c.keep t v).rd = (c.k, u, v) :: rd0 from hrd] at hr2;rcases List.mem_cons.1 hr2 with rfl | hr3
  ·exact ⟨fun _ => ⟨_, hdO c.l, a, u', v', ⟨hcur, hd_at hd hne, (okV_spec hok).2.1, hx0, k1, k2, k3, k4, veq_rn k4 hvv⟩⟩, fun h => by simp [hacc] at h; omega⟩
  ·have hr0 := hr r (by rw [hrd]; exact List.mem_cons_of_mem _ hr3);have hne2 := hno r hr3;refine ⟨fun hl2 => ?_, fun hl2 => ?_⟩
   ·simp [hacc] at hl2;obtain ⟨s, o, x, u1, v1, k⟩ := hr0.1 (by omega);exact ⟨s, o, x, u1, v1, k.mono (Em.le_refl _) _⟩
   ·simp [hacc] at hl2;exact hr0.2 (by omega)
 ·have hlt' : p.2 < c.k + 1 := hlt;rcases (by omega : p.2 < c.k ∨ p.2 = c.k) with h | h
  ·obtain ⟨g1, g2⟩ := hp p hm h;refine ⟨fun hl1 => ?_, fun hl1 => ?_⟩
   ·have hl1' : p.1 < c.k + 1 := hl1;rcases (by omega : p.1 < c.k ∨ p.1 = c.k) with g | g
    ·exact steady_app (g1 g) _
    ·obtain ⟨q, hqm, u1, v1, s1, s2, k⟩ := g2 (by omega);rw [hrd] at hqm;rcases List.mem_cons.1 hqm with rfl | hqm
     ·have e1 : u' = u1 := k2.inj k.ru;have e2 : v' = v1 := k4.inj k.rv;subst e1 e2;have kk := k.mono (Em.le_refl e) [(⟨tm'.put t (some v'), H⟩ : St)];have l1 := kk.look1;have l2 := kk.look2;rw [g, hopk] at l1 l2;refine steady_app (y := [_]) (?_ : steady T c.ops (acc ++ [⟨tm', H⟩]) p = true);unfold steady;rw [g, hcur, hd_at hd hne];simp only [(okV_spec hok).2.1, cond_true, hx0, k1, k3, k.at1, k.at2, l1, l2, k.vv, Bool.and_self]
     ·exact absurd (k.i.trans g) (hno q hqm)
   ·obtain ⟨q, hqm, u1, v1, s1, s2, k⟩ := g2 (by have : c.k + 1 ≤ p.1 := hl1; omega);exact ⟨q, hqm, u1, v1, s1, s2, k.mono (Em.le_refl _) _⟩
  ·exfalso;have hm : p ∈ loose T c.ops := hm;rw [hz] at hm;have : c.part = true := List.any_eq_true.2 ⟨p, hm, by rw [h]; exact Nat.beq_refl _⟩;rw [hpt] at this; cases this
theorem stepR_sound [OrcDat T] {c' : Qf} (h : stepR P T c = some c') (hd : SR P T X Q c') : SR P T X Q c := by
 intro hz hdr e H tm' K' acc hx ht hK hacc hrd hp;unfold stepR at h;cases hcl : (c.part2 || c.lk)
 case true => rw [hcl] at h; cases h
 rw [hcl] at h;simp only [cond_false] at h;rw [Bool.or_eq_false_iff] at hcl;obtain ⟨hpt, _⟩ := hcl;have hpn := fun (e1 : Em) (he : e.le e1) (S1 : St) => pairs_no2 he hz hp hpt S1
 have hpt0 := hpt;unfold Qf.part2 at hpt0;rw [Bool.or_eq_false_iff] at hpt0;have hno := pm_no hacc hpt0.2;clear hpt0 hpt;obtain ⟨n, ops, lz, k, l, K, s, rd⟩ := c;simp only at hx ht hK hz hdr hacc hrd hp hpn hno ⊢;cases l with
 | nil => cases h
 | cons o l =>
  simp only at h;cases hst : strictO s.tm ops o
  ·rw [hst] at h; cases h
  rw [hst] at h;simp only [cond_true] at h;unfold strictO at hst;simp only [Bool.and_eq_true] at hst;obtain ⟨hg, hst⟩ := hst;have haw := awanted_rn ht hg;have hdr1 : ops.toList.drop (k + 1) = l := drop_hd (c := ⟨n, ops, lz, k, o :: l, K, s, rd⟩) hdr
  have fin : ∀ {v v' : Value} {h1 H1 : Heap} {e1 : Em}, finQ ⟨n, ops, lz, k, o :: l, K, s, rd⟩ o v h1 = some c' → HN e1 h1 H1 → Ex e e1 s.H H h1 H1 → RN e1 v v' → APut n o.dst v' tm' H1 (ATr P T n ops l (acc ++ [⟨tm', H⟩]) fun r s' => (loose T ops).all (steady T ops r) = true ∧ Den P T ⟨n, .done .normal, K', s'⟩ Q) := by
   intro v v' h1 H1 e1 hf g2 g3 hv;unfold finQ at hf;simp only at hf;cases hdst : o.dst with
   | none =>
    rw [hdst] at hf;simp only [dput] at hf;cases hf;exact aput_k (tm' := tm') rfl (hd hz hdr1 e1 H1 tm' K' _ (hx.next X.ok g2 g3) (ht.mono g3.le) (KE.mono g3.le hK) (by simp [hacc]) (hrd.mono g3.le hno _) (hpn _ g3.le _))
   | some d =>
    rw [hdst] at hf;simp only [dput] at hf;cases hb : d.blt n
    ·rw [hb] at hf; cases hf
    ·rw [hb] at hf;simp only [cond_true] at hf;cases hf;exact aput_k (tm' := tm'.put d (some v')) (by simp only [dput, hb, cond_true]) (hd hz hdr1 e1 H1 _ K' _ (hx.next X.ok g2 g3) ((ht.mono g3.le).put d hv) (KE.mono g3.le hK) (by simp [hacc]) (hrd.mono g3.le hno _) (hpn _ g3.le _))
  show AStep P T n ops o _ ⟨tm', H⟩;unfold AStep;simp only [haw];cases hw : awanted ops s.tm o
  ·rw [hw] at h;simp only [cond_false] at h ⊢;exact fin h hx.hn (Ex.refl _ _ _) (.of_closed rfl)
  ·rw [hw] at h hst;simp only [cond_true, Bool.not_true, Bool.false_or, Bool.and_eq_true] at h hst ⊢;split at h
   ·rename_i v h1 q;obtain ⟨r', H1, e1, g1, g2, g3, g4⟩ := aop_rn q hx.hn (ht.op hst.1) hst.2;cases g4 with
    | val hv =>
     simp only [g1];exact fin h g2 g3 hv
   ·rename_i h1 q;obtain ⟨r', H1, e1, g1, g2, g3, g4⟩ := aop_rn q hx.hn (ht.op hst.1) hst.2;cases g4 with
    | skip =>
     simp only [g1];exact fin h g2 g3 (.of_closed rfl)
   ·rename_i f args h1 q;obtain ⟨r', H1, e1, g1, g2, g3, g4⟩ := aop_rn q hx.hn (ht.op hst.1) hst.2;cases g4 with
    | enter hr =>
     rename_i args';have := enter_heap g1;subst this;split at h
     ·rename_i v q2;have hv' : T.orc f args'.toList = some v := by rw [OrcDat.rn inferInstance hr]; exact q2
      simp only [g1];exact acall_orc hv' (fin h g2 g3 (.of_closed (OrcDat.dat (T := T) _ _ _ q2).1))
     ·cases h
   ·cases h
theorem sr_run [OrcDat T] (k : Nat) (h : SR P T X Q (goR P T k c)) : SR P T X Q c := by
 induction k generalizing c with
 | zero => exact h
 | succ k ih =>
  cases q : stepR P T c with
  | none => simp only [goR, q] at h; exact h
  | some c' => simp only [goR, q] at h; exact stepR_sound q (ih h)
theorem sr_call (t : Nat) (f : FuncId) (args : Array Value) {R : Value → Heap → Prop} {args0 : Array Value} {k : Heap} (hc : SCall P T f args0 k R) (g : Em) (ho : okV c.n c.ops c.s c.l t = true) (hs : strictQ c = true)
    (ha : aop P T c.s.tm (hdO c.l) c.s.H = some (.enter f args, c.s.H)) (hg : HN g k c.s.H) (hr : RNs g args0.toList args.toList)
    (hk : ∀ v k1, R v k1 → ∃ w h1, Glue g k k1 c.s.H h1 ∧ RN (g.ext k.n c.s.H.n) v w ∧ QOk2 T c h1 ∧ SR P T X Q (c.put t w h1)) : SR P T X Q c := by
 intro hz hd e H tm' K' acc hx ht hK hacc hrd hp;have hs' := hs;unfold strictQ at hs';simp only [Bool.and_eq_true] at hs';obtain ⟨r', H1, e1, g1, g2, g3, g4⟩ := aop_rn ha hx.hn (ht.op hs'.2.1) hs'.2.2;cases g4 with
 | enter hr2 =>
  rename_i args';have := enter_heap g1;subst this;have hx1 := hx.next X.ok g2 g3;refine atr_call1 t f args' (big_okQ ho hs ht) g1 ((hc (g.comp e1) args' H1 (hg.comp g2) (hr.comp hr2)).mono fun v' H2 hh => ?_);obtain ⟨v, k1, e2, r1, r2, r3, r4⟩ := hh;obtain ⟨w, h1, gl, rw_, hcm, hd2⟩ := hk v k1 r1;obtain ⟨e3, s1, s2, s3⟩ := gl.run hg g2 r2 r3;have hle : e.le e3 := fun b x q => s2.le _ _ (g3.le _ _ q)
  exact hd2 hz (drop_hd hd) e3 H2 _ K' _ (hx1.next X.ok s1 s2) (((ht.mono g3.le).mono s2.le).put t (s3 _ _ _ rw_ r4)) (KE.mono s2.le (KE.mono g3.le hK)) (by simp [hacc, Qf.put]) (hrd.mono hle (pm_no hacc hcm.1) _) (pairs_ok2 hz hacc hrd hx.hn s1 hle hp hcm _)
end
attribute [irreducible] SR
end Go.Ev
