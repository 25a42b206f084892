/- Memory under other names: the rules by which a walk goes. -/
import Derived.Test.YtahikechkggbfaaEvMd
namespace Go.Ev
open Go
set_option linter.unusedVariables false
set_option linter.unusedSimpArgs false
/-! Memories and slots that are told as lists -/
def hqGo : List (Option Ob) → Nat → Tr Ob → Tr Ob
  | [], _, t => t
  | none :: l, k, t => hqGo l (k + 1) t
  | some o :: l, k, t => hqGo l (k + 1) (t.put k (some o))
def hq (l : List (Option Ob)) : Heap := ⟨hqGo l 0 .lf, l.length⟩
theorem hqGo_get : ∀ (l : List (Option Ob)) (k : Nat) (t : Tr Ob) (b : Nat), (hqGo l k t).get b = if k ≤ b ∧ b < k + l.length then (match l[b - k]? with | some (some o) => some o | _ => t.get b) else t.get b := by
  intro l
  induction l with
  | nil => intro k t b; rw [if_neg (by simp)]; rfl
  | cons x l ih =>
    intro k t b
    have key : (hqGo (x :: l) k t).get b = (hqGo l (k + 1) (match x with | some o => t.put k (some o) | none => t)).get b := by cases x <;> rfl
    rw [key, ih]
    by_cases hb : b = k
    · subst hb
      rw [if_neg (by omega), if_pos (by simp), Nat.sub_self]
      cases x with
      | none => rfl
      | some o => simp [Tr.get_put]
    · have hk : (match x with | some o => t.put k (some o) | none => t).get b = t.get b := by
        cases x with
        | none => rfl
        | some o => simp only; rw [Tr.get_put, if_neg hb]
      simp only [hk]
      by_cases hr : k + 1 ≤ b ∧ b < k + 1 + l.length
      · rw [if_pos hr, if_pos (by simp only [List.length_cons]; omega)]
        rw [show b - k = (b - (k + 1)) + 1 by omega, List.getElem?_cons_succ]
      · rw [if_neg hr, if_neg (by simp only [List.length_cons]; omega)]
theorem hq_get (l : List (Option Ob)) (b : Nat) : (hq l).get b = (match l[b]? with | some (some o) => some o | _ => none) := by
  show (hqGo l 0 .lf).get b = _
  rw [hqGo_get]
  by_cases h : b < l.length
  · rw [if_pos ⟨Nat.zero_le _, by omega⟩, Nat.sub_zero]; simp [Tr.get]
  · rw [if_neg (by omega), List.getElem?_eq_none (by omega)]; simp [Tr.get]
theorem hq_n (l : List (Option Ob)) : (hq l).n = l.length := rfl
theorem hq_wf (l : List (Option Ob)) (b : Nat) (o : Ob) (h : (hq l).get b = some o) : b < (hq l).n := by
  rw [hq_get] at h
  rw [hq_n]
  split at h
  · rename_i q; exact (List.getElem?_eq_some_iff.1 q).1
  · cases h
def tmL : List (Nat × Value) → Tr Value
  | [] => .lf
  | (i, v) :: l => (tmL l).put i (some v)
theorem tmL_mem : ∀ (l : List (Nat × Value)) (t : Nat) (v : Value), (tmL l).get t = some v → (t, v) ∈ l := by
  intro l
  induction l with
  | nil => intro t v h; simp [tmL, Tr.get] at h
  | cons p l ih =>
    intro t v h
    obtain ⟨i, u⟩ := p
    simp only [tmL, Tr.get_put] at h
    split at h
    · rename_i q; cases h; subst q; simp
    · exact List.mem_cons_of_mem _ (ih t v h)
/-! Renaming by computation -/
def rn0 (f : Em) : Value → Option Value
  | .pointer (some ⟨b, off, none⟩) => match f b with | some (some c) => some (.pointer (some ⟨c, off, none⟩)) | _ => none
  | .slice (some ⟨b, off, none⟩) n cap => match f b with
    | some (some c) => some (.slice (some ⟨c, off, none⟩) n cap)
    | some none => bif n.beq 0 && unk.ble cap then some (.slice none 0 0) else none
    | none => none
  | v => bif plain v then some v else none
def rnG (g : Value → Option Value) : List Value → Option (List Value)
  | [] => some []
  | v :: l => match g v, rnG g l with | some w, some r => some (w :: r) | _, _ => none
def rn1 (f : Em) : Value → Option Value
  | .agg cs => match rnG (rn0 f) cs.toList with | some l => some (.agg ⟨l⟩) | none => none
  | .func g a b => match rnG (rn0 f) a.toList, rnG (rn0 f) b.toList with | some l, some r => some (.func g ⟨l⟩ ⟨r⟩) | _, _ => none
  | .iface t v => match rn0 f v with | some w => some (.iface t w) | none => none
  | v => rn0 f v
def rn2 (f : Em) : Value → Option Value
  | .tuple cs => match rnG (rn1 f) cs.toList with | some l => some (.tuple ⟨l⟩) | none => none
  | v => rn1 f v
theorem rnG_sound {f : Em} {g : Value → Option Value} (hg : ∀ v w, g v = some w → RN f v w) : ∀ (l r : List Value), rnG g l = some r → RNs f l r := by
  intro l
  induction l with
  | nil => intro r h; simp only [rnG] at h; cases h; exact RNs.nil
  | cons v l ih =>
    intro r h
    simp only [rnG] at h
    split at h
    · rename_i w r' h1 h2; cases h; exact RNs.cons (hg _ _ h1) (ih _ h2)
    · cases h
theorem rn0_sound {f : Em} (v w : Value) (h : rn0 f v = some w) : RN f v w := by
  unfold rn0 at h
  split at h
  · split at h
    · rename_i q; cases h; exact .ptr q
    · cases h
  · rename_i b off n cap
    split at h
    · rename_i q; cases h; exact .slice q
    · rename_i q
      cases hb : (n.beq 0 && unk.ble cap)
      · rw [hb] at h; cases h
      · rw [hb] at h; cases h
        simp only [Bool.and_eq_true, Nat.beq_eq] at hb
        obtain ⟨rfl, h2⟩ := hb
        exact .nils q (Nat.le_of_ble_eq_true h2)
    · cases h
  · cases hb : plain v
    · rw [hb] at h; cases h
    · rw [hb] at h; cases h; exact .same hb
theorem rn1_sound {f : Em} (v w : Value) (h : rn1 f v = some w) : RN f v w := by
  unfold rn1 at h
  split at h
  · split at h
    · rename_i l q; cases h; exact RNs.agg (rnG_sound rn0_sound _ _ q)
    · cases h
  · split at h
    · rename_i l r q1 q2
      cases h
      have g1 := RNs.arr (ys := ⟨l⟩) (rnG_sound rn0_sound _ _ q1)
      have g2 := RNs.arr (ys := ⟨r⟩) (rnG_sound rn0_sound _ _ q2)
      exact .func g1.1 g1.2 g2.1 g2.2
    · cases h
  · split at h
    · rename_i w q; cases h; exact .iface (rn0_sound _ _ q)
    · cases h
  · exact rn0_sound _ _ h
theorem rn2_sound {f : Em} (v w : Value) (h : rn2 f v = some w) : RN f v w := by
  unfold rn2 at h
  split at h
  · split at h
    · rename_i l q; cases h; exact RNs.tuple (rnG_sound rn1_sound _ _ q)
    · cases h
  · exact rn1_sound _ _ h
def obRn (f : Em) (o : Ob) : Option Ob := match rnG (rn1 f) o.cells with | some l => some ⟨l, o.elem, o.ro⟩ | none => none
/-! A memory that is told anew -/
abbrev emOf (l : List (Option Nat)) : Em := fun b => l[b]?
def Bk (f : Em) (h : Heap) (c : Nat) (o : Ob) : Prop := ∃ cs, h.get c = some ⟨cs, o.elem, o.ro⟩ ∧ RNs f o.cells cs
def Blks (f : Em) (h : Heap) : List (Option Ob) → List (Option Nat) → Prop
  | [], [] => True
  | none :: obs, _ :: l => Blks f h obs l
  | some o :: obs, some c :: l => Bk f h c o ∧ Blks f h obs l
  | some o :: obs, none :: l => o.cells = [] ∧ Blks f h obs l
  | _, _ => False
theorem bk_ren {f : Em} {h : Heap} {c : Nat} {o : Ob} (h1 : h.get c = obRn f o) (h2 : (obRn f o).isSome = true) : Bk f h c o := by
  unfold obRn at h1 h2
  split at h1
  · rename_i l q; exact ⟨l, h1, rnG_sound rn1_sound _ _ q⟩
  · rename_i q; rw [q] at h2; cases h2
theorem bk_flat {f : Em} {h : Heap} {c : Nat} {cells : List Value} {e : TypeId} {ro : Bool} (cs : List Value) (h1 : h.get c = some ⟨cs, e, ro⟩) (hf : cells.all plain = true) (he : cs = cells) : Bk f h c ⟨cells, e, ro⟩ := by
  subst he; exact ⟨_, h1, RNs.of_plain hf⟩
def subGo (n0 hn : Nat) : Nat → List (Option Nat) → List Nat → Bool
  | _, [], _ => true
  | i, none :: l, seen => n0.ble i && subGo n0 hn (i + 1) l seen
  | i, some c :: l, seen => (bif i.blt n0 then c.beq i else n0.ble c) && c.blt hn && !(seen.any (Nat.beq c ·)) && subGo n0 hn (i + 1) l (c :: seen)
theorem subGo_spec {n0 hn : Nat} : ∀ (l : List (Option Nat)) (i : Nat) (seen : List Nat), subGo n0 hn i l seen = true →
    (∀ (j : Nat), j < l.length → i + j < n0 → l[j]? = some (some (i + j))) ∧ (∀ (j c : Nat), l[j]? = some (some c) → c < hn ∧ (n0 ≤ i + j → n0 ≤ c) ∧ c ∉ seen) ∧
    (∀ (j1 j2 c : Nat), l[j1]? = some (some c) → l[j2]? = some (some c) → j1 = j2) := by
  intro l
  induction l with
  | nil => intro i seen _; exact ⟨fun j h => by simp at h, fun j c h => by simp at h, fun j1 j2 c h => by simp at h⟩
  | cons x l ih =>
    intro i seen h
    cases x with
    | none =>
      simp only [subGo, Bool.and_eq_true] at h
      have hi : n0 ≤ i := Nat.le_of_ble_eq_true h.1
      obtain ⟨a1, a2, a3⟩ := ih (i + 1) seen h.2
      refine ⟨fun j hj hn => by omega, fun j c q => ?_, fun j1 j2 c q1 q2 => ?_⟩
      · cases j with
        | zero => simp at q
        | succ j => have := a2 j c (by simpa using q); exact ⟨this.1, fun k => this.2.1 (by omega), this.2.2⟩
      · cases j1 with
        | zero => simp at q1
        | succ j1 => cases j2 with
          | zero => simp at q2
          | succ j2 => rw [a3 j1 j2 c (by simpa using q1) (by simpa using q2)]
    | some c0 =>
      simp only [subGo, Bool.and_eq_true, Bool.not_eq_true'] at h
      obtain ⟨⟨⟨h1, h2⟩, h3⟩, h4⟩ := h
      obtain ⟨a1, a2, a3⟩ := ih (i + 1) _ h4
      have hlt : c0 < hn := Nat.le_of_ble_eq_true h2
      have hns : c0 ∉ seen := fun q => by
        rw [List.any_eq_false] at h3
        exact h3 c0 q (Nat.beq_refl _)
      refine ⟨fun j hj hn => ?_, fun j c q => ?_, fun j1 j2 c q1 q2 => ?_⟩
      · cases j with
        | zero =>
          have hb : i.blt n0 = true := by rw [blt_dec]; simp; omega
          rw [hb] at h1
          simp only [cond_true, Nat.beq_eq] at h1
          simp [h1]
        | succ j =>
          have := a1 j (by simpa using hj) (by omega)
          simp only [List.getElem?_cons_succ]; rw [this]; congr 2; omega
      · cases j with
        | zero =>
          simp at q; subst q
          refine ⟨hlt, fun k => ?_, hns⟩
          have hb : i.blt n0 = false := by rw [blt_dec]; simp; omega
          rw [hb] at h1
          exact Nat.le_of_ble_eq_true h1
        | succ j =>
          have := a2 j c (by simpa using q)
          exact ⟨this.1, fun k => this.2.1 (by omega), fun q => this.2.2 (List.mem_cons_of_mem _ q)⟩
      · cases j1 with
        | zero => cases j2 with
          | zero => rfl
          | succ j2 =>
            simp at q1; subst q1
            exact absurd (List.mem_cons_self ..) (a2 j2 c0 (by simpa using q2)).2.2
        | succ j1 => cases j2 with
          | zero =>
            simp at q2; subst q2
            exact absurd (List.mem_cons_self ..) (a2 j1 c0 (by simpa using q1)).2.2
          | succ j2 => rw [a3 j1 j2 c (by simpa using q1) (by simpa using q2)]
theorem Blks.spec {f : Em} {hh : Heap} : ∀ {obs : List (Option Ob)} {l : List (Option Nat)}, Blks f hh obs l → obs.length = l.length ∧ (∀ (j : Nat) (o : Ob) (c : Nat), obs[j]? = some (some o) → l[j]? = some (some c) → Bk f hh c o) ∧ (∀ (j : Nat) (o : Ob), obs[j]? = some (some o) → l[j]? = some none → o.cells = []) := by
  intro obs
  induction obs with
  | nil => intro l h; cases l with
    | nil => exact ⟨rfl, fun j o c q => (by simp at q), fun j o q => (by simp at q)⟩
    | cons => exact h.elim
  | cons x obs ih =>
    intro l h
    cases l with
    | nil => cases x <;> exact h.elim
    | cons y l =>
      have key : Blks f hh obs l ∧ (∀ (o : Ob) (c : Nat), x = some o → y = some c → Bk f hh c o) ∧ (∀ (o : Ob), x = some o → y = none → o.cells = []) := by
        cases x with
        | none => exact ⟨h, fun o c q => (by cases q), fun o q => (by cases q)⟩
        | some o => cases y with
          | none => exact ⟨h.2, fun o c _ q => (by cases q), fun o' q _ => (by cases q; exact h.1)⟩
          | some c => exact ⟨h.2, fun o' c' q1 q2 => (by cases q1; cases q2; exact h.1), fun o _ q => (by cases q)⟩
      obtain ⟨k1, k2, k3⟩ := key
      obtain ⟨a1, a2, a3⟩ := ih k1
      refine ⟨by simp [a1], fun j o c q1 q2 => ?_, fun j o q1 q2 => ?_⟩
      · cases j with
        | zero => simp at q1 q2; exact k2 o c q1 q2
        | succ j => exact a2 j o c (by simpa using q1) (by simpa using q2)
      · cases j with
        | zero => simp at q1 q2; exact k3 o q1 q2
        | succ j => exact a3 j o (by simpa using q1) (by simpa using q2)
theorem hq_some {l : List (Option Ob)} {b : Nat} {o : Ob} (h : (hq l).get b = some o) : l[b]? = some (some o) := by
  rw [hq_get] at h
  split at h
  · rename_i q; rw [q]; cases h; rfl
  · cases h
theorem hn_of {l : List (Option Nat)} {obs : List (Option Ob)} {h : Heap} (n0 : Nat) (hl : subGo n0 h.n 0 l [] = true) (hb : Blks (emOf l) h obs l) : HN (emOf l) (hq obs) h := by
  obtain ⟨a1, a2, a3⟩ := hb.spec
  obtain ⟨b1, b2, b3⟩ := subGo_spec _ _ _ hl
  refine ⟨hq_wf obs, fun b x q => ?_, fun b c q => (b2 b c q).1, fun b c o q1 q2 => a2 b o c (hq_some q1) q2, fun b o q1 q2 => a3 b o (hq_some q1) q2, fun x y c q1 q2 _ _ => b3 x y c q1 q2⟩
  rw [hq_n, a1]
  exact (List.getElem?_eq_some_iff.1 q).1
theorem sub_of {l : List (Option Nat)} {obs : List (Option Ob)} {h : Heap} {n0 : Nat} (hl : subGo n0 h.n 0 l [] = true) (hle : n0.ble l.length = true) (hb : Blks (emOf l) h obs l) : Sub n0 (emOf l) (hq obs) h := by
  obtain ⟨b1, b2, b3⟩ := subGo_spec _ _ _ hl
  have hle := Nat.le_of_ble_eq_true hle
  refine ⟨hn_of n0 hl hb, fun b hb' => ?_, fun b c hb' q => (b2 b c q).2.1 (by omega), ?_⟩
  · have := b1 b (by omega) (by omega)
    rw [Nat.zero_add] at this; exact this
  · rw [hq_n, hb.spec.1]; exact hle
theorem te_of {f : Em} {L : List (Nat × Value)} {tm : Tr Value} (h1 : L.map (fun p => rn2 f p.2) = L.map (fun p => tm.get p.1)) (h2 : L.all (fun p => (rn2 f p.2).isSome) = true) : TE f (tmL L) tm := fun t v q => by
  have hm := tmL_mem _ _ _ q
  obtain ⟨j, hj⟩ := List.mem_iff_getElem?.1 hm
  have e1 : rn2 f v = tm.get t := by
    have := congrArg (fun r => r[j]?) h1
    simpa [hj] using this
  obtain ⟨w, hw⟩ := Option.isSome_iff_exists.1 (List.all_eq_true.1 h2 _ hm)
  exact ⟨w, by rw [← e1]; exact hw, rn2_sound _ _ hw⟩
/-! The rules -/
theorem val_enter {u : Option Value} {H H1 : Heap} {f : FuncId} {a : Array Value} (h : val u H = some (.enter f a, H1)) : False := by unfold val at h; split at h <;> cases h
theorem val2_enter {u : Option (Value × Heap)} {H1 : Heap} {f : FuncId} {a : Array Value} (h : val2 u = some (.enter f a, H1)) : False := by unfold val2 at h; split at h <;> cases h
theorem skp_enter {u : Option Heap} {H1 : Heap} {f : FuncId} {a : Array Value} (h : skp u = some (.enter f a, H1)) : False := by unfold skp at h; split at h <;> cases h
/-- A call leaves memory to what it calls. -/
theorem enter_call {P : Program} {T : Tab} {tm : Tr Value} {o : Oper} {cl : Call} {H H1 : Heap} {f : FuncId} {a : Array Value} (h : acall P T tm o cl H = some (.enter f a, H1)) : H1 = H := by
  unfold acall at h
  split at h
  · split at h
    · split at h
      · cases h; rfl
      · cases h
    · cases h
  · cases h
  · split at h
    all_goals first | exact (val_enter h).elim | exact (val2_enter h).elim | (cases h; done) | (split at h <;> (cases h; done))
/-- A call leaves memory to what it calls. -/
theorem enter_heap {P : Program} {T : Tab} {tm : Tr Value} {o : Oper} {H H1 : Heap} {f : FuncId} {a : Array Value} (h : aop P T tm o H = some (.enter f a, H1)) : H1 = H := by
  unfold aop at h
  split at h
  all_goals first
    | exact enter_call h
    | exact (val_enter h).elim
    | (split at h <;> first | exact (val_enter h).elim | exact (val2_enter h).elim | exact (skp_enter h).elim | (cases h; done) | (split at h <;> first | exact (val_enter h).elim | (cases h; done)) | (rename_i z _; cases hc : closed z <;> rw [hc] at h <;> cases h))
    | (cases h; done)
section
variable {P : Program} {T : Tab} {X : Cx} {Q : Xt → St → Prop} {c : Cf}
structure SubS (n0 : Nat) (f : Em) (k s : St) : Prop where
  mem : Sub n0 f k.H s.H
  te : TE f k.tm s.tm
theorem sd_see (t : Nat) (v : Value) (h : c.s.tm.get t = some v) (hk : SD P T X Q (c.see t v)) : SD P T X Q c := by
  obtain ⟨n, p, K, s⟩ := c
  have := st_see t v h
  unfold Cf.see at hk
  rw [← this] at hk
  exact hk
def strictC (c : Cf) : Bool := guardP c.s.tm (opsC c) (opC c) && ((opC c).op.operands.toList.all (pres c.s.tm) && okB c.s.tm (opC c).op)
theorem big_ok {t : Nat} {e : Em} {tm' : Tr Value} {H : Heap} {K' : List Kf} (ho : okOp c t = true) (hs : strictC c = true) (ht : TE e c.s.tm tm') : okOp ⟨c.n, c.p, K', ⟨tm', H⟩⟩ t = true := by
  unfold strictC at hs
  rw [Bool.and_eq_true] at hs
  have haw := awanted_rn ht hs.1
  unfold okOp at ho ⊢
  rw [show awanted (opsC ⟨c.n, c.p, K', ⟨tm', H⟩⟩) tm' (opC ⟨c.n, c.p, K', ⟨tm', H⟩⟩) = awanted (opsC c) c.s.tm (opC c) from haw]
  exact ho
theorem big_no {e : Em} {tm' : Tr Value} {H : Heap} {K' : List Kf} (ho : okNo c = true) (hs : strictC c = true) (ht : TE e c.s.tm tm') : okNo ⟨c.n, c.p, K', ⟨tm', H⟩⟩ = true := by
  unfold strictC at hs
  rw [Bool.and_eq_true] at hs
  have haw := awanted_rn ht hs.1
  unfold okNo at ho ⊢
  rw [show awanted (opsC ⟨c.n, c.p, K', ⟨tm', H⟩⟩) tm' (opC ⟨c.n, c.p, K', ⟨tm', H⟩⟩) = awanted (opsC c) c.s.tm (opC c) from haw]
  exact ho
theorem sd_val (t : Nat) (v : Value) (h1 : Heap) (ho : okOp c t = true) (hs : strictC c = true) (ha : aop P T c.s.tm (opC c) c.s.H = some (.val v, h1)) (hk : SD P T X Q (c.put t v h1)) : SD P T X Q c := by
  intro e H tm' K' hx ht hK
  have hs' := hs
  unfold strictC at hs'
  simp only [Bool.and_eq_true] at hs'
  obtain ⟨r', H1, e1, g1, g2, g3, g4⟩ := aop_rn ha hx.hn (ht.op hs'.2.1) hs'.2.2
  cases g4 with
  | val hv => exact cf_val t _ H1 (big_ok ho hs ht) g1 (hk e1 H1 _ K' (hx.next X.ok g2 g3) ((ht.mono g3.le).put t hv) (KE.mono g3.le hK))
theorem sd_skip (h1 : Heap) (ho : okNo c = true) (hs : strictC c = true) (ha : aop P T c.s.tm (opC c) c.s.H = some (.skip, h1)) (hk : SD P T X Q (c.skp h1)) : SD P T X Q c := by
  intro e H tm' K' hx ht hK
  have hs' := hs
  unfold strictC at hs'
  simp only [Bool.and_eq_true] at hs'
  obtain ⟨r', H1, e1, g1, g2, g3, g4⟩ := aop_rn ha hx.hn (ht.op hs'.2.1) hs'.2.2
  cases g4 with
  | skip => exact cf_skip H1 (big_no ho hs ht) g1 (hk e1 H1 _ K' (hx.next X.ok g2 g3) (ht.mono g3.le) (KE.mono g3.le hK))
theorem sd_ask [OrcDat T] (t : Nat) (v : Value) (f : FuncId) (args : Array Value) (ho : okOp c t = true) (hs : strictC c = true) (ha : aop P T c.s.tm (opC c) c.s.H = some (.enter f args, c.s.H)) (hv : T.orc f args.toList = some v) (hk : SD P T X Q (c.put t v c.s.H)) : SD P T X Q c := by
  intro e H tm' K' hx ht hK
  have hs' := hs
  unfold strictC at hs'
  simp only [Bool.and_eq_true] at hs'
  obtain ⟨r', H1, e1, g1, g2, g3, g4⟩ := aop_rn ha hx.hn (ht.op hs'.2.1) hs'.2.2
  cases g4 with
  | enter hr =>
    rename_i args'
    have hv' : T.orc f args'.toList = some v := by rw [OrcDat.rn inferInstance hr]; exact hv
    have hcl := (OrcDat.dat (T := T) _ _ _ hv).1
    have := enter_heap g1
    subst this
    refine cf_call t f args' H1 (big_ok ho hs ht) g1 rfl (acall_orc hv' (R := fun v' H' => v' = v ∧ H' = H1) ⟨rfl, rfl⟩) fun v' H' hh => ?_
    rw [hh.1, hh.2]
    exact hk e1 H1 _ K' (hx.next X.ok g2 g3) ((ht.mono g3.le).put t (.of_closed hcl)) (KE.mono g3.le hK)
/-! Calls -/
theorem SCall.mono {f : FuncId} {args : Array Value} {h : Heap} {R R' : Value → Heap → Prop} (hc : SCall P T f args h R) (hr : ∀ v h, R v h → R' v h) : SCall P T f args h R' := fun e a H hn ha =>
  (hc e a H hn ha).mono fun v H1 ⟨w, h1, e1, k1, k2⟩ => ⟨w, h1, e1, hr _ _ k1, k2⟩
def Em.ext (f : Em) (kn hn : Nat) : Em := fun b => bif b.blt kn then f b else some (some (hn + (b - kn)))
def CovAt (f : Em) (k k1 h : Heap) (c : Nat) (o1 : Ob) : Prop :=
  (∃ b o, b < k1.n ∧ f.ext k.n h.n b = some (some c) ∧ k1.get b = some o ∧ o1.elem = o.elem ∧ o1.ro = o.ro ∧ RNs (f.ext k.n h.n) o.cells o1.cells) ∨
  (c < h.n ∧ (∀ b, f b = some (some c) → k.get b = none) ∧ h.get c = some o1)
/-- What a call makes of the caller's memory. -/
structure Glue (f : Em) (k k1 h h1 : Heap) : Prop where
  n : h1.n = h.n + (k1.n - k.n)
  le : k.n ≤ k1.n
  wf : ∀ c o, h1.get c = some o → c < h1.n
  cov : ∀ c o, h1.get c = some o → CovAt f k k1 h c o
theorem Em.ext_lt {f : Em} {kn hn b : Nat} (h : b < kn) : f.ext kn hn b = f b := by
  have : b.blt kn = true := by rw [blt_dec]; simp; omega
  simp only [Em.ext, this, cond_true]
theorem Em.ext_ge {f : Em} {kn hn b : Nat} (h : kn ≤ b) : f.ext kn hn b = some (some (hn + (b - kn))) := by
  have : b.blt kn = false := by rw [blt_dec]; simp; omega
  simp only [Em.ext, this, cond_false]
theorem Glue.run {f e g : Em} {k k1 h h1 H H1 : Heap} (gl : Glue f k k1 h h1) (hf : HN f k h) (he : HN e h H) (hg : HN g k1 H1) (hx : Ex (f.comp e) g k H k1 H1) :
    ∃ e1, HN e1 h1 H1 ∧ Ex e e1 h H h1 H1 ∧ ∀ v w v', RN (f.ext k.n h.n) v w → RN g v v' → RN e1 w v' := by
  have hc := hf.comp he
  obtain ⟨e1, he1⟩ : ∃ e1 : Em, e1 = fun c => bif c.blt h.n then e c else g (k.n + (c - h.n)) := ⟨_, rfl⟩
  have lo : ∀ c, c < h.n → e1 c = e c := fun c q => by
    have : c.blt h.n = true := by rw [blt_dec]; simp; omega
    rw [he1]; simp only [this, cond_true]
  have hi : ∀ c, h.n ≤ c → e1 c = g (k.n + (c - h.n)) := fun c q => by
    have : c.blt h.n = false := by rw [blt_dec]; simp; omega
    rw [he1]; simp only [this, cond_false]
  have gnone : ∀ b, b < k.n → (f.comp e) b = none → g b = none := fun b q1 q2 => by
    cases q3 : g b with
    | none => rfl
    | some x =>
      rcases hx.new _ _ q3 with q4 | ⟨q4, _⟩
      · rw [q2] at q4; cases q4
      · omega
  have hfe : ∀ b x, f.ext k.n h.n b = some x → g b = match x with | none => some none | some c => e1 c := by
    intro b x q
    by_cases hb : b < k.n
    · rw [Em.ext_lt hb] at q
      cases x with
      | none => exact hx.le _ _ (by simp only [Em.comp, q])
      | some c =>
        have hcl := hf.rng _ _ q
        simp only
        rw [lo c hcl]
        cases q2 : e c with
        | none => exact gnone b hb (by simp only [Em.comp, q, q2])
        | some y => exact hx.le _ _ (by simp only [Em.comp, q, q2])
    · rw [Em.ext_ge (by omega)] at q
      cases q
      simp only
      rw [hi _ (by omega)]
      congr 1; omega
  have kl : ∀ b, b < k.n → (k1.get b).isSome → (k.get b).isSome := fun b q1 q2 => by
    cases q3 : k.get b with
    | some _ => rfl
    | none => rw [hx.lv b q1 q3] at q2; cases q2
  have liveh : ∀ b c, f b = some (some c) → (k.get b).isSome → (h.get c).isSome := fun b c q1 q2 => by
    obtain ⟨o, ho⟩ := Option.isSome_iff_exists.1 q2
    obtain ⟨l, g1, _⟩ := hf.blk b c o ho q1
    rw [g1]; rfl
  have hl : ∀ c, c < h.n → (h1.get c).isSome → (h.get c).isSome := fun c q1 q2 => by
    obtain ⟨o, ho⟩ := Option.isSome_iff_exists.1 q2
    rcases gl.cov c o ho with ⟨b, o', p1, p2, p3, _⟩ | ⟨_, _, p3⟩
    · by_cases hb : b < k.n
      · rw [Em.ext_lt hb] at p2
        exact liveh b c p2 (kl b hb (by rw [p3]; rfl))
      · rw [Em.ext_ge (by omega)] at p2; cases p2; omega
    · rw [p3]; rfl
  have hle : e.le e1 := fun c x q => by rw [lo c (he.dom _ _ q)]; exact q
  refine ⟨e1, ⟨gl.wf, fun c x q => ?_, fun c d q => ?_, fun c d o1 q1 q2 => ?_, fun c o1 q1 q2 => ?_, fun c1 c2 d q1 q2 l1 l2 => ?_⟩, ⟨hle, fun c x q => ?_, by have := gl.n; omega, hx.Hn, fun d hd q => ?_, fun c hc q => ?_⟩, fun v w v' q1 q2 => q1.factor hfe q2⟩
  · by_cases hc : c < h.n
    · have := gl.n; omega
    · rw [hi c (by omega)] at q
      have := hg.dom _ _ q
      have := gl.n; have := gl.le; omega
  · by_cases hc : c < h.n
    · rw [lo c hc] at q; exact Nat.lt_of_lt_of_le (he.rng _ _ q) hx.Hn
    · rw [hi c (by omega)] at q; exact hg.rng _ _ q
  · rcases gl.cov c o1 q1 with ⟨b, o, p1, p2, p3, p4, p5, p6⟩ | ⟨p1, p2, p3⟩
    · have hgb : g b = some (some d) := (hfe b _ p2).trans q2
      obtain ⟨cs, k2, k3⟩ := hg.blk b d o p3 hgb
      exact ⟨cs, by rw [k2, p4, p5], p6.factor hfe k3⟩
    · rw [lo c p1] at q2
      obtain ⟨cs, k2, k3⟩ := he.blk c d o1 p3 q2
      refine ⟨cs, ?_, k3.mono hle⟩
      rw [hx.keep d (he.rng _ _ q2) fun b q => ?_]
      · exact k2
      · rcases comp_some q with ⟨_, q⟩ | ⟨c2, r1, r2⟩
        · cases q
        · cases q3 : k.get b with
          | none => rfl
          | some o' =>
            have := he.inj c2 c d r2 q2 (liveh b c2 r1 (by rw [q3]; rfl)) (by rw [p3]; rfl)
            subst this
            rw [p2 b r1] at q3; cases q3
  · rcases gl.cov c o1 q1 with ⟨b, o, p1, p2, p3, p4, p5, p6⟩ | ⟨p1, p2, p3⟩
    · have hgb : g b = some none := (hfe b _ p2).trans q2
      have := hg.gh b o p3 hgb
      exact List.eq_nil_of_length_eq_zero (by rw [← p6.1, this]; rfl)
    · rw [lo c p1] at q2; exact he.gh c o1 p3 q2
  · have hkl : ∀ c, h.n ≤ c → (h1.get c).isSome → (k1.get (k.n + (c - h.n))).isSome := fun c q1 q2 => by
      obtain ⟨o, ho⟩ := Option.isSome_iff_exists.1 q2
      rcases gl.cov c o ho with ⟨b, o', p1, p2, p3, _⟩ | ⟨p1, _⟩
      · by_cases hb : b < k.n
        · rw [Em.ext_lt hb] at p2
          have := hf.rng _ _ p2; omega
        · rw [Em.ext_ge (by omega)] at p2; cases p2
          rw [show k.n + (h.n + (b - k.n) - h.n) = b by omega, p3]; rfl
      · omega
    have cross : ∀ c1 c2, c1 < h.n → h.n ≤ c2 → e1 c1 = some (some d) → e1 c2 = some (some d) → False := fun c1 c2 a1 a2 b1 b2 => by
      rw [lo c1 a1] at b1; rw [hi c2 a2] at b2
      have := he.rng _ _ b1
      rcases hx.new _ _ b2 with q | ⟨_, q⟩
      · have := hc.dom _ _ q; omega
      · have := q d rfl; omega
    by_cases a1 : c1 < h.n
    · by_cases a2 : c2 < h.n
      · rw [lo c1 a1] at q1; rw [lo c2 a2] at q2
        exact he.inj c1 c2 d q1 q2 (hl c1 a1 l1) (hl c2 a2 l2)
      · exact (cross c1 c2 a1 (by omega) q1 q2).elim
    · by_cases a2 : c2 < h.n
      · exact (cross c2 c1 a2 (by omega) q2 q1).elim
      · rw [hi c1 (by omega)] at q1; rw [hi c2 (by omega)] at q2
        have := hg.inj _ _ d q1 q2 (hkl c1 (by omega) l1) (hkl c2 (by omega) l2)
        omega
  · by_cases a : c < h.n
    · rw [lo c a] at q; exact .inl q
    · rw [hi c (by omega)] at q
      rcases hx.new _ _ q with q | ⟨_, q⟩
      · have := hc.dom _ _ q; omega
      · exact .inr ⟨by omega, q⟩
  · refine hx.keep d hd fun b q2 => ?_
    rcases comp_some q2 with ⟨_, q2⟩ | ⟨c2, r1, r2⟩
    · cases q2
    · cases q3 : k.get b with
      | none => rfl
      | some o' =>
        have h1 := q c2 r2
        have h2 := liveh b c2 r1 (by rw [q3]; rfl)
        rw [h1] at h2; cases h2
  · cases q3 : h1.get c with
    | none => rfl
    | some o =>
      have := hl c hc (by rw [q3]; rfl)
      rw [q] at this; cases this
theorem Glue.refl {f : Em} {k h : Heap} (hf : HN f k h) (hwf : ∀ c o, h.get c = some o → c < h.n) : Glue f k k h h where
  n := by omega
  le := Nat.le_refl _
  wf := hwf
  cov := fun c o q => by
    by_cases hb : ∃ b, f b = some (some c) ∧ (k.get b).isSome
    · obtain ⟨b, h1, h2⟩ := hb
      obtain ⟨o', ho'⟩ := Option.isSome_iff_exists.1 h2
      obtain ⟨cs, g1, g2⟩ := hf.blk b c o' ho' h1
      rw [q] at g1
      have hbn := hf.dom _ _ h1
      have e1 : o = ⟨cs, o'.elem, o'.ro⟩ := Option.some.inj g1
      refine .inl ⟨b, o', hbn, by rw [Em.ext_lt hbn]; exact h1, ho', by rw [e1], by rw [e1], ?_⟩
      rw [e1]
      refine ⟨g2.1, fun i x hx => ?_⟩
      obtain ⟨y, hy, hv⟩ := g2.2 i x hx
      exact ⟨y, hy, hv.mono fun b' x' q' => by rw [Em.ext_lt (hf.dom _ _ q')]; exact q'⟩
    · exact .inr ⟨hwf c o q, fun b h1 => by
        cases h2 : k.get b with
        | none => rfl
        | some o' => exact absurd ⟨b, h1, by rw [h2]; rfl⟩ hb, q⟩
theorem sd_call (t : Nat) (f : FuncId) (args : Array Value) {R : Value → Heap → Prop} {args0 : Array Value} {k : Heap} (hc : SCall P T f args0 k R) (g : Em) (ho : okOp c t = true) (hs : strictC c = true)
    (ha : aop P T c.s.tm (opC c) c.s.H = some (.enter f args, c.s.H)) (hg : HN g k c.s.H) (hr : RNs g args0.toList args.toList)
    (hk : ∀ v k1, R v k1 → ∃ w h1, Glue g k k1 c.s.H h1 ∧ RN (g.ext k.n c.s.H.n) v w ∧ SD P T X Q (c.put t w h1)) : SD P T X Q c := by
  intro e H tm' K' hx ht hK
  have hs' := hs
  unfold strictC at hs'
  simp only [Bool.and_eq_true] at hs'
  obtain ⟨r', H1, e1, g1, g2, g3, g4⟩ := aop_rn ha hx.hn (ht.op hs'.2.1) hs'.2.2
  cases g4 with
  | enter hr2 =>
    rename_i args'
    have := enter_heap g1
    subst this
    refine cf_call t f args' H1 (big_ok ho hs ht) g1 rfl (hc (g.comp e1) args' H1 (hg.comp g2) (hr.comp hr2)) fun v' H2 hh => ?_
    obtain ⟨v, k1, e2, r1, r2, r3, r4⟩ := hh
    obtain ⟨w, h1, gl, rw_, hd⟩ := hk v k1 r1
    obtain ⟨e3, s1, s2, s3⟩ := gl.run hg g2 r2 r3
    have hle := s2.le
    exact hd e3 H2 _ K' ((hx.next X.ok g2 g3).next X.ok s1 s2) (((ht.mono g3.le).mono hle).put t (s3 _ _ _ rw_ r4)) (KE.mono hle (KE.mono g3.le hK))
theorem sd_call0 (f : FuncId) (args : Array Value) {R : Value → Heap → Prop} {args0 : Array Value} {k : Heap} (hc : SCall P T f args0 k R) (g : Em) (ho : okNo c = true) (hs : strictC c = true)
    (ha : aop P T c.s.tm (opC c) c.s.H = some (.enter f args, c.s.H)) (hg : HN g k c.s.H) (hr : RNs g args0.toList args.toList)
    (hk : ∀ v k1, R v k1 → ∃ h1, Glue g k k1 c.s.H h1 ∧ SD P T X Q (c.skp h1)) : SD P T X Q c := by
  intro e H tm' K' hx ht hK
  have hs' := hs
  unfold strictC at hs'
  simp only [Bool.and_eq_true] at hs'
  obtain ⟨r', H1, e1, g1, g2, g3, g4⟩ := aop_rn ha hx.hn (ht.op hs'.2.1) hs'.2.2
  cases g4 with
  | enter hr2 =>
    rename_i args'
    have := enter_heap g1
    subst this
    refine cf_call0 f args' H1 (big_no ho hs ht) g1 rfl (hc (g.comp e1) args' H1 (hg.comp g2) (hr.comp hr2)) fun v' H2 hh => ?_
    obtain ⟨v, k1, e2, r1, r2, r3, r4⟩ := hh
    obtain ⟨h1, gl, hd⟩ := hk v k1 r1
    obtain ⟨e3, s1, s2, s3⟩ := gl.run hg g2 r2 r3
    have hle := s2.le
    exact hd e3 H2 _ K' ((hx.next X.ok g2 g3).next X.ok s1 s2) ((ht.mono g3.le).mono hle) (KE.mono hle (KE.mono g3.le hK))
end
end Go.Ev
