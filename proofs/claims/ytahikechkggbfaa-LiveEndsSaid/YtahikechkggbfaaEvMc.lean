/- Memory under other names: an operation. -/
import Derived.Test.YtahikechkggbfaaEvMb
namespace Go.Ev
open Go
set_option linter.unusedVariables false
set_option linter.unusedSimpArgs false
/-- Slots that go together, as far as the first ones are known. -/
def TE (e : Em) (tm tm' : Tr Value) : Prop := ∀ t v, tm.get t = some v → ∃ v', tm'.get t = some v' ∧ RN e v v'
theorem TE.mono {e e1 : Em} (he : e.le e1) {tm tm' : Tr Value} (h : TE e tm tm') : TE e1 tm tm' := fun t v k => by
  obtain ⟨v', h1, h2⟩ := h t v k
  exact ⟨v', h1, h2.mono he⟩
theorem TE.put {e : Em} {tm tm' : Tr Value} (h : TE e tm tm') (d : Nat) {v v' : Value} (hv : RN e v v') : TE e (tm.put d (some v)) (tm'.put d (some v')) := fun t u k => by
  rw [Tr.get_put] at k ⊢
  split at k
  · rename_i q; cases k; rw [if_pos q]; exact ⟨v', rfl, hv⟩
  · rename_i q; rw [if_neg q]; exact h t u k
def pres (tm : Tr Value) : Operand → Bool
  | .tmp t => (tm.get t).isSome
  | _ => true
def OpN (e : Em) (tm tm' : Tr Value) (xs : List Operand) : Prop := ∀ x ∈ xs, ∀ v, aeval tm x = some v → ∃ v', aeval tm' x = some v' ∧ RN e v v'
section
variable {P : Program} {T : Tab} {e : Em} {h H h1 : Heap} {tm tm' : Tr Value} {o : Oper} {r : Res}
theorem TE.op (ht : TE e tm tm') {xs : List Operand} (hp : xs.all (pres tm) = true) : OpN e tm tm' xs := by
  intro x hx v hv
  cases x with
  | tmp t =>
    have := List.all_eq_true.1 hp _ hx
    unfold pres at this
    obtain ⟨u, hu⟩ := Option.isSome_iff_exists.1 this
    simp only [aeval, hu, Option.getD_some] at hv
    cases hv
    obtain ⟨v', h1, h2⟩ := ht t _ hu
    exact ⟨v', by simp only [aeval, h1, Option.getD_some], h2⟩
  | const c =>
    simp only [aeval] at hv ⊢
    cases hc : closed c
    · rw [hc] at hv; cases hv
    · rw [hc] at hv; cases hv; exact ⟨_, rfl, RN.of_closed hc⟩
  | func f => simp only [aeval] at hv ⊢; cases hv; exact ⟨_, rfl, RN.of_closed rfl⟩
  | global g => simp [aeval] at hv
theorem aevals_rn : ∀ {xs : List Operand} {l : List Value}, OpN e tm tm' xs → aevals tm xs = some l → ∃ l', aevals tm' xs = some l' ∧ RNs e l l' := by
  intro xs
  induction xs with
  | nil => intro l ht h; simp only [aevals] at h ⊢; cases h; exact ⟨_, rfl, RNs.nil⟩
  | cons x xs ih =>
    intro l ht h
    simp only [aevals] at h
    split at h
    · rename_i v l' h1 h2
      cases h
      obtain ⟨v', k1, k2⟩ := ht x (by simp) _ h1
      obtain ⟨l2, k3, k4⟩ := ih (fun y hy => ht y (by simp [hy])) h2
      exact ⟨_, by simp only [aevals, k1, k3], RNs.cons k2 k4⟩
    · cases h
theorem aevalp_rn : ∀ {xs : List (Nat × Operand)} {l : List (Nat × Value)}, OpN e tm tm' (xs.map (·.2)) → aevalp tm xs = some l → ∃ l', aevalp tm' xs = some l' ∧ RNp e l l' := by
  intro xs
  induction xs with
  | nil => intro l ht h; simp only [aevalp] at h ⊢; cases h; exact ⟨_, rfl, .nil⟩
  | cons x xs ih =>
    intro l ht h
    obtain ⟨i, x⟩ := x
    simp only [aevalp] at h
    split at h
    · rename_i v l' h1 h2
      cases h
      obtain ⟨v', k1, k2⟩ := ht x (by simp) _ h1
      obtain ⟨l2, k3, k4⟩ := ih (fun y hy => ht y (by simp at hy ⊢; exact .inr hy)) h2
      exact ⟨_, by simp only [aevalp, k1, k3], .cons k2 k4⟩
    · cases h
theorem aevalo_rn {x : Option Operand} {q : Option Value} (ht : OpN e tm tm' x.toList) (h : aevalo tm x = some q) : ∃ q', aevalo tm' x = some q' ∧ RNo e q q' := by
  cases x with
  | none => simp only [aevalo] at h ⊢; cases h; exact ⟨_, rfl, True.intro⟩
  | some x =>
    simp only [aevalo] at h
    split at h
    · rename_i v hv
      cases h
      obtain ⟨v', k1, k2⟩ := ht x (by simp) _ hv
      exact ⟨some v', by simp only [aevalo, k1], k2⟩
    · cases h
theorem aeval_same {xs : List Operand} (ht : OpN e tm tm' xs) (hd : xs.all (dataAt tm) = true) : ∀ x ∈ xs, aeval tm' x = aeval tm x := by
  intro x hx
  have h1 := List.all_eq_true.1 hd x hx
  unfold dataAt at h1
  split at h1
  · rename_i v hv
    obtain ⟨v', k1, k2⟩ := ht x hx v hv
    rw [k1, k2.closed_eq h1, hv]
  · cases h1
theorem fallback_data {v : Value} (h : fallback P tm o = some v) : o.op.operands.toList.all (dataAt tm) = true := by
  unfold fallback at h
  split at h
  · cases hb : o.op.operands.toList.all (dataAt tm)
    · rw [hb] at h; cases h
    · rfl
  · unfold fallback0 at h
    cases hb : o.op.operands.toList.all (dataAt tm)
    · rw [hb] at h; cases h
    · rfl
theorem aggEq_same (hq : ∀ x ∈ o.op.operands.toList, aeval tm' x = aeval tm x) : aggEq P tm' o = aggEq P tm o := by
  unfold aggEq
  cases hop : o.op with
  | binOp op t a b p =>
    rw [hop] at hq
    simp only
    rw [hq a (by simp [Op.operands]), hq b (by simp [Op.operands])]
  | _ => rfl
theorem all_same {xs : List Operand} (hq : ∀ x ∈ xs, aeval tm' x = aeval tm x) : xs.all (dataAt tm') = xs.all (dataAt tm) := by
  induction xs with
  | nil => rfl
  | cons x xs ih =>
    simp only [List.all_cons]
    rw [ih (fun y hy => hq y (by simp [hy]))]
    unfold dataAt
    rw [hq x (by simp)]
theorem fallback_rn {v : Value} (ht : OpN e tm tm' o.op.operands.toList) (hs : ∀ cs b, o.op ≠ .select cs b) (hv : fallback P tm o = some v) : fallback P tm' o = some v ∧ closed v = true := by
  have hd := fallback_data hv
  have hq := aeval_same ht hd
  have e1 : fallback P tm' o = fallback P tm o := by
    unfold fallback
    rw [aggEq_same hq]
    have e0 : fallback0 P tm' o = fallback0 P tm o := by
      unfold fallback0
      rw [all_same hq]
      have : execOp (ρ tm') o = execOp (ρ tm) o := execOp_congr o hs fun x hx => by
        unfold ρ
        rw [hq x (by simpa using hx)]
      rw [this]
    rw [e0, all_same hq]
  refine ⟨e1.trans hv, ?_⟩
  unfold fallback at hv
  split at hv
  · rename_i u hu
    cases hb : o.op.operands.toList.all (dataAt tm)
    · rw [hb] at hv; cases hv
    · rw [hb] at hv
      cases hv
      unfold aggEq at hu
      split at hu
      · split at hu
        · rename_i x y _ _
          revert hu
          generalize (isStr _ && !P.stoodInHeld _ && !P.eqGuardType P.depth _) = bb
          intro hu
          cases bb
          · cases hu
          · simp only [cond_true] at hu; split at hu
            · cases hu; rfl
            · cases hu
        · rename_i x y _ _
          revert hu
          generalize (isStr _ && !P.stoodInHeld _ && !P.eqGuardType P.depth _) = bb
          intro hu
          cases bb
          · cases hu
          · simp only [cond_true] at hu; split at hu
            · cases hu; rfl
            · cases hu
        · cases hu
      · cases hu
  · unfold fallback0 at hv
    cases hb : o.op.operands.toList.all (dataAt tm)
    · rw [hb] at hv; cases hv
    · rw [hb] at hv
      simp only [cond_true] at hv
      split at hv
      · rename_i u hu
        cases hc : closed u
        · rw [hc] at hv; cases hv
        · rw [hc] at hv; cases hv; exact hc
      · cases hv
inductive ResN (e : Em) : Res → Res → Prop where
  | val {v v' : Value} (h : RN e v v') : ResN e (.val v) (.val v')
  | skip : ResN e .skip .skip
  | enter {f : FuncId} {as bs : Array Value} (h : RNs e as.toList bs.toList) : ResN e (.enter f as) (.enter f bs)
def GoodN (e : Em) (h H : Heap) (q : Option (Res × Heap)) (r : Res) (h1 : Heap) : Prop :=
  ∃ r' H1 e1, q = some (r', H1) ∧ HN e1 h1 H1 ∧ Ex e e1 h H h1 H1 ∧ ResN e1 r r'
theorem goodn_val {u u' : Option Value} (hv : val u h = some (r, h1)) (hn : HN e h H) (hrun : ∀ v, u = some v → ∃ v', u' = some v' ∧ RN e v v') : GoodN e h H (val u' H) r h1 := by
  unfold val at hv
  split at hv
  · cases hv
    obtain ⟨v', k1, k2⟩ := hrun _ rfl
    rw [k1]
    exact ⟨_, H, e, rfl, hn, Ex.refl _ _ _, .val k2⟩
  · cases hv
theorem goodn_val2 {u u' : Option (Value × Heap)} (hv : val2 u = some (r, h1)) (hrun : ∀ v, u = some (v, h1) → ∃ v' H1, u' = some (v', H1) ∧ Mk1 e h H v h1 v' H1) : GoodN e h H (val2 u') r h1 := by
  unfold val2 at hv
  split at hv
  · cases hv
    obtain ⟨v', H1, k1, e1, k2, k3, k4⟩ := hrun _ rfl
    rw [k1]
    exact ⟨_, H1, e1, rfl, k2, k3, .val k4⟩
  · cases hv
theorem goodn_or {u u' w w' : Option Value} (hv : val (orVal u w) h = some (r, h1)) (hn : HN e h H) (hu : ∀ v, u = some v → ∃ v', u' = some v' ∧ RN e v v') (hw : ∀ v, u = none → w = some v → u' = none ∧ ∃ v', w' = some v' ∧ RN e v v') :
    GoodN e h H (val (orVal u' w') H) r h1 := by
  refine goodn_val hv hn fun v hq => ?_
  cases hu0 : u with
  | some x =>
    rw [hu0] at hq
    obtain ⟨v', k1, k2⟩ := hu x hu0
    rw [k1]
    simp only [orVal] at hq ⊢
    cases hq
    exact ⟨_, rfl, k2⟩
  | none =>
    rw [hu0] at hq
    simp only [orVal] at hq
    obtain ⟨k0, v', k1, k2⟩ := hw v hu0 hq
    rw [k0]
    simp only [orVal]
    exact ⟨v', k1, k2⟩
theorem acall_rn {c : Call} (hop : o.op = .call c) (hv : acall P T tm o c h = some (r, h1)) (hn : HN e h H) (ht : OpN e tm tm' o.op.operands.toList) : GoodN e h H (acall P T tm' o c H) r h1 := by
  have hfb : ∀ v, fallback P tm o = some v → fallback P tm' o = some v ∧ closed v = true := fun v hv => fallback_rn ht (by rw [hop]; simp) hv
  unfold acall at hv
  split at hv
  · rename_i f hc
    split at hv
    · rename_i g first cap l hf hl
      split at hv
      · rename_i fn hfn
        cases hv
        obtain ⟨fv, k1, k2⟩ := ht f (by simp [hop, Op.operands, Call.operands, hc]) _ hf
        obtain ⟨l', k3, k4⟩ := aevals_rn (fun x hx => ht x (by simp [hop, Op.operands, Call.operands, hc] at hx ⊢; exact .inr hx)) hl
        cases k2 with
        | same hp => simp [plain] at hp
        | func hs hx hs2 hx2 =>
          rename_i gs ds
          refine ⟨.enter g (gs ++ l'.toArray ++ ds), H, e, ?_, hn, Ex.refl _ _ _, .enter ?_⟩
          · unfold acall
            simp only [hc, k1, k3, hfn]
          · simp only [Array.toList_append]
            exact ((RNs.of_arr hs hx).append (by simpa using k4)).append (RNs.of_arr hs2 hx2)
      · cases hv
    · cases hv
  · cases hv
  · rename_i b hc
    have hargs : OpN e tm tm' c.args.toList := fun x hx => ht x (by simp [hop, Op.operands, Call.operands, hc] at hx ⊢; exact hx)
    unfold acall
    rw [hc]
    simp only
    split at hv
    · rename_i st xt s x hat hl
      obtain ⟨l', k3, k4⟩ := aevals_rn hargs hl
      obtain ⟨s', hs, hs2⟩ := k4.2 0 s rfl
      obtain ⟨x', hx, hx2⟩ := k4.2 1 x rfl
      have hl2 : l' = [s', x'] := by
        match l', k4.1, hs, hx with
        | [p, q], _, hs, hx => simp at hs hx; subst hs hx; rfl
      subst hl2
      simp only [hat, k3]
      exact goodn_val2 hv fun v hq => aappend_rn hq hn hs2 hx2
    · rename_i dt xt d x hat hl
      obtain ⟨l', k3, k4⟩ := aevals_rn hargs hl
      obtain ⟨s', hs, hs2⟩ := k4.2 0 d rfl
      obtain ⟨x', hx, hx2⟩ := k4.2 1 x rfl
      have hl2 : l' = [s', x'] := by
        match l', k4.1, hs, hx with
        | [p, q], _, hs, hx => simp at hs hx; subst hs hx; rfl
      subst hl2
      simp only [hat, k3]
      refine goodn_val2 hv fun v hq => ?_
      obtain ⟨H1, q1, q2, q3, q4⟩ := acopy_rn hq hn hs2 hx2
      exact ⟨v, H1, q1, e, q2, q3, .same q4⟩
    · rename_i t s n c' hat hl
      obtain ⟨l', k3, k4⟩ := aevals_rn hargs hl
      obtain ⟨s', hs, hs2⟩ := k4.2 0 _ rfl
      have hl2 : l' = [s'] := by
        match l', k4.1, hs with
        | [p], _, hs => simp at hs; subst hs; rfl
      subst hl2
      split at hv
      · rename_i el hu
        cases hv
        simp only [hat, k3]
        have : ∃ s2 c2, s' = .slice s2 n c2 := by
          cases hs2 with
          | same => exact ⟨_, _, rfl⟩
          | slice => exact ⟨_, _, rfl⟩
          | nils => exact ⟨_, _, rfl⟩
        obtain ⟨s2, c2, rfl⟩ := this
        simp only [hu]
        exact ⟨_, H, e, rfl, hn, Ex.refl _ _ _, .val (.same rfl)⟩
      · cases hv
    · rename_i k x k' y hl
      obtain ⟨l', k3, k4⟩ := aevals_rn hargs hl
      obtain ⟨s', hs, hs2⟩ := k4.2 0 _ rfl
      obtain ⟨x', hx, hx2⟩ := k4.2 1 _ rfl
      have hl2 : l' = [s', x'] := by
        match l', k4.1, hs, hx with
        | [p, q], _, hs, hx => simp at hs hx; subst hs hx; rfl
      subst hl2
      cases hs2.plain_eq rfl
      cases hx2.plain_eq rfl
      cases hv
      simp only [k3]
      exact ⟨_, H, e, rfl, hn, Ex.refl _ _ _, .val (.same rfl)⟩
    · rename_i k x k' y hl
      obtain ⟨l', k3, k4⟩ := aevals_rn hargs hl
      obtain ⟨s', hs, hs2⟩ := k4.2 0 _ rfl
      obtain ⟨x', hx, hx2⟩ := k4.2 1 _ rfl
      have hl2 : l' = [s', x'] := by
        match l', k4.1, hs, hx with
        | [p, q], _, hs, hx => simp at hs hx; subst hs hx; rfl
      subst hl2
      cases hs2.plain_eq rfl
      cases hx2.plain_eq rfl
      cases hv
      simp only [k3]
      exact ⟨_, H, e, rfl, hn, Ex.refl _ _ _, .val (.same rfl)⟩
    · cases hv
    · cases hv
    · rename_i n1 n2 n3 n4 n5 n6 n7
      have hd : ∃ v, fallback P tm o = some v := by
        unfold val at hv
        split at hv
        · exact ⟨_, by assumption⟩
        · cases hv
      obtain ⟨v, hd⟩ := hd
      have hq := aeval_same ht (fallback_data hd)
      have hae : aevals tm' c.args.toList = aevals tm c.args.toList := by
        have : ∀ x ∈ c.args.toList, aeval tm' x = aeval tm x := fun x hx => hq x (by simp [hop, Op.operands, Call.operands, hc] at hx ⊢; exact hx)
        clear hargs hv n1 n2 n3 n4 n5 n6 n7
        generalize c.args.toList = xs at this
        induction xs with
        | nil => rfl
        | cons x xs ih => simp only [aevals]; rw [this x (by simp), ih fun y hy => this y (by simp [hy])]
      rw [hae]
      have key : GoodN e h H (val (fallback P tm' o) H) r h1 := goodn_val hv hn fun v hv => by
        obtain ⟨k1, k2⟩ := hfb v hv
        exact ⟨v, k1, RN.of_closed k2⟩
      split
      all_goals first | exact key | (exfalso; first | exact n1 rfl | exact n2 rfl | exact n3 _ _ _ _ rfl ‹_› | exact n4 _ _ _ _ rfl ‹_› | exact n5 _ _ _ _ rfl ‹_› ‹_› | exact n6 _ _ _ _ rfl ‹_› ‹_› | exact n7 _ _ _ _ rfl ‹_› ‹_›)
/-- Is no row that is asked whether it is nil one that may be? -/
def okB (tm : Tr Value) : Op → Bool
  | .binOp _ _ x y _ => (match aeval tm x with | some v => !mn v | none => true) && (match aeval tm y with | some v => !mn v | none => true)
  | _ => true
theorem aop_rn (hv : aop P T tm o h = some (r, h1)) (hn : HN e h H) (ht : OpN e tm tm' o.op.operands.toList) (hb : okB tm o.op = true) : GoodN e h H (aop P T tm' o H) r h1 := by
  have hmk : ∀ {v v' : Value} {h1 H1 : Heap}, Mk1 e h H v h1 v' H1 → GoodN e h H (some (.val v', H1)) (.val v) h1 := fun ⟨e1, k1, k2, k3⟩ => ⟨_, _, e1, rfl, k1, k2, .val k3⟩
  unfold aop at hv
  split at hv
  · rename_i x hop
    unfold aop
    rw [hop]
    exact goodn_val hv hn fun v hq => ht _ (by simp [hop, Op.operands]) _ hq
  · rename_i x hop
    unfold aop
    rw [hop]
    exact goodn_val hv hn fun v hq => ht _ (by simp [hop, Op.operands]) _ hq
  · rename_i c x y hop
    unfold aop
    rw [hop]
    split at hv
    · rename_i t u v q1 q2 q3
      obtain ⟨c', k1, k2⟩ := ht c (by simp [hop, Op.operands]) _ q1
      obtain ⟨u', k3, k4⟩ := ht x (by simp [hop, Op.operands]) _ q2
      obtain ⟨v', k5, k6⟩ := ht y (by simp [hop, Op.operands]) _ q3
      cases k2.plain_eq rfl
      simp only [k1, k3, k5]
      cases hv
      refine ⟨_, H, e, rfl, hn, Ex.refl _ _ _, .val ?_⟩
      cases t
      · exact k6
      · exact k4
    · cases hv
  · rename_i el hop
    unfold aop
    rw [hop]
    split at hv
    · rename_i z hz
      simp only [hz]
      cases hc : closed z
      · rw [hc] at hv; cases hv
      rw [hc] at hv
      cases hv
      exact hmk (hn.mk_ptr (o := ⟨z.cells.toList, el, false⟩) (O := ⟨z.cells.toList, el, false⟩) rfl rfl (closed_rns hc))
    · cases hv
  · rename_i el x hop
    unfold aop
    rw [hop]
    split at hv
    · rename_i v q1
      obtain ⟨v', k1, k2⟩ := ht x (by simp [hop, Op.operands]) _ q1
      simp only [k1]
      cases hv
      exact hmk (hn.mk_ptr (o := ⟨v.cells.toList, el, false⟩) (O := ⟨v'.cells.toList, el, false⟩) rfl rfl (RNs.cells k2))
    · cases hv
  · rename_i t ps hop
    unfold aop
    rw [hop]
    split at hv
    · rename_i l hl
      obtain ⟨l', k1, k2⟩ := aevalp_rn (fun x hx => ht x (by simpa [hop, Op.operands] using hx)) hl
      simp only [k1]
      exact goodn_val hv hn fun v hq => abuild_rn hq k2
    · cases hv
  · rename_i t n ps hop
    unfold aop
    rw [hop]
    split at hv
    · rename_i l hl
      obtain ⟨l', k1, k2⟩ := aevalp_rn (fun x hx => ht x (by simpa [hop, Op.operands] using hx)) hl
      simp only [k1]
      exact goodn_val2 hv fun v hq => abuildSlice_rn hq hn k2
    · cases hv
  · rename_i t x hop
    unfold aop
    rw [hop]
    split at hv
    · rename_i u hu
      obtain ⟨u', k1, k2⟩ := ht x (by simp [hop, Op.operands]) _ hu
      simp only [k1]
      exact goodn_val hv hn fun v hq => aload_rn hq hn k2
    · cases hv
  · rename_i t x y hop
    unfold aop
    rw [hop]
    split at hv
    · rename_i v u q1 q2
      obtain ⟨v', k1, k2⟩ := ht x (by simp [hop, Op.operands]) _ q1
      obtain ⟨u', k3, k4⟩ := ht y (by simp [hop, Op.operands]) _ q2
      simp only [k1, k3]
      unfold skp at hv
      split at hv
      · rename_i h2 hst
        cases hv
        obtain ⟨H1, g1, g2, g3⟩ := astore_rn hst hn k2 k4
        rw [g1]
        exact ⟨_, H1, e, rfl, g2, g3, .skip⟩
      · cases hv
    · cases hv
  · rename_i x hop
    unfold aop
    rw [hop]
    split at hv
    · rename_i p hp
      obtain ⟨v', k1, k2⟩ := ht x (by simp [hop, Op.operands]) _ hp
      cases hv
      cases k2 with
      | same hpp => simp [plain] at hpp
      | ptr hb =>
        simp only [k1]
        exact ⟨_, H, e, rfl, hn, Ex.refl _ _ _, .val (.ptr hb)⟩
    · rename_i f g c hp
      obtain ⟨v', k1, k2⟩ := ht x (by simp [hop, Op.operands]) _ hp
      cases hv
      cases k2 with
      | same hpp => simp [plain] at hpp
      | func g1 g2 g3 g4 =>
        simp only [k1]
        exact ⟨_, H, e, rfl, hn, Ex.refl _ _ _, .val (.func g1 g2 g3 g4)⟩
    · cases hv
  · rename_i op t x y yt hop
    unfold aop
    rw [hop]
    split at hv
    · rename_i u v hu hw
      obtain ⟨u', k1, k2⟩ := ht x (by simp [hop, Op.operands]) _ hu
      obtain ⟨v', k3, k4⟩ := ht y (by simp [hop, Op.operands]) _ hw
      rw [hop] at hb
      simp only [okB, hu, hw, Bool.and_eq_true, Bool.not_eq_true'] at hb
      simp only [k1, k3]
      refine goodn_or hv hn (fun z hz => ?_) fun z h0 hz => ?_
      · obtain ⟨g1, g2⟩ := abin_rn hz k2 k4 hb.1 hb.2
        exact ⟨z, g1, .same g2⟩
      · obtain ⟨g1, g2⟩ := fallback_rn ht (by rw [hop]; simp) hz
        have hq := aeval_same ht (fallback_data hz)
        have e1 : u' = u := by have := hq x (by simp [hop, Op.operands]); rw [k1, hu] at this; exact Option.some.inj this
        have e2 : v' = v := by have := hq y (by simp [hop, Op.operands]); rw [k3, hw] at this; exact Option.some.inj this
        exact ⟨by rw [e1, e2]; exact h0, z, g1, RN.of_closed g2⟩
    · cases hv
  · rename_i t x hop
    unfold aop
    rw [hop]
    split at hv
    · rename_i b q1
      obtain ⟨v', k1, k2⟩ := ht x (by simp [hop, Op.operands]) _ q1
      cases k2.plain_eq rfl
      simp only [k1]
      cases hv
      exact ⟨_, H, e, rfl, hn, Ex.refl _ _ _, .val (.same rfl)⟩
    · cases hv
  · rename_i sr ds x hop
    unfold aop
    rw [hop]
    split at hv
    · rename_i v q1
      obtain ⟨v', k1, k2⟩ := ht x (by simp [hop, Op.operands]) _ q1
      simp only [k1]
      refine goodn_or hv hn (fun z hz => ?_) fun z h0 hz => ?_
      · obtain ⟨g1, g2⟩ := aconvert_rn hz hn k2
        exact ⟨z, g1, .same g2⟩
      · obtain ⟨g1, g2⟩ := fallback_rn ht (by rw [hop]; simp) hz
        have hd := fallback_data hz
        have hq := aeval_same ht hd
        have e1 : v' = v := by have := hq x (by simp [hop, Op.operands]); rw [k1, q1] at this; exact Option.some.inj this
        have hcl : closed v = true := by
          have := List.all_eq_true.1 hd x (by simp [hop, Op.operands])
          unfold dataAt at this
          rw [q1] at this
          exact this
        refine ⟨?_, z, g1, RN.of_closed g2⟩
        rw [e1]
        have : ∀ H2 : Heap, aconvert T sr ds v H2 = aconvert T sr ds v h := fun H2 => by
          unfold aconvert
          split <;> first | rfl | (simp [closed, plain] at hcl)
        rw [this]; exact h0
    · cases hv
  · rename_i fn fs cs hop
    unfold aop
    rw [hop]
    split at hv
    · rename_i l k hl hk
      obtain ⟨l', k1, k2⟩ := aevals_rn (fun x hx => ht x (by simp [hop, Op.operands] at hx ⊢; exact .inl hx)) hl
      obtain ⟨c', k3, k4⟩ := aevals_rn (fun x hx => ht x (by simp [hop, Op.operands] at hx ⊢; exact .inr hx)) hk
      simp only [k1, k3]
      cases hv
      have g1 : RNs e l.toArray.toList l'.toArray.toList := by simpa using k2
      have g2 : RNs e k.toArray.toList c'.toArray.toList := by simpa using k4
      exact ⟨_, H, e, rfl, hn, Ex.refl _ _ _, .val (.func g1.arr.1 g1.arr.2 g2.arr.1 g2.arr.2)⟩
    · cases hv
  · rename_i t x hop
    unfold aop
    rw [hop]
    split at hv
    · cases hv
    · rename_i v d hu q1 q2
      obtain ⟨v', k1, k2⟩ := ht x (by simp [hop, Op.operands]) _ q1
      cases hv
      simp only [k1, q2]
      exact ⟨_, H, e, rfl, hn, Ex.refl _ _ _, .val (.iface k2)⟩
    · cases hv
  · rename_i t l c hop
    unfold aop
    rw [hop]
    split at hv
    · rename_i u v q1 q2
      obtain ⟨u', k1, k2⟩ := ht l (by simp [hop, Op.operands]) _ q1
      obtain ⟨v', k3, k4⟩ := ht c (by simp [hop, Op.operands]) _ q2
      simp only [k1, k3]
      exact goodn_val2 hv fun w hq => amakeSlice_rn hq hn k2 k4
    · cases hv
  · rename_i t x lo hi mx hop
    unfold aop
    rw [hop]
    split at hv
    · rename_i v l hh m q1 q2 q3 q4
      obtain ⟨v', k1, k2⟩ := ht x (by simp [hop, Op.operands]) _ q1
      obtain ⟨l', k3, k4⟩ := aevalo_rn (fun y hy => ht y (by simp [hop, Op.operands] at hy ⊢; simp [hy])) q2
      obtain ⟨hh', k5, k6⟩ := aevalo_rn (fun y hy => ht y (by simp [hop, Op.operands] at hy ⊢; simp [hy])) q3
      obtain ⟨m', k7, k8⟩ := aevalo_rn (fun y hy => ht y (by simp [hop, Op.operands] at hy ⊢; simp [hy])) q4
      simp only [k1, k3, k5, k7]
      refine goodn_or hv hn (fun z hz => aslice_rn hz k2 k4 k6 k8) fun z h0 hz => ?_
      obtain ⟨g1, g2⟩ := fallback_rn ht (by rw [hop]; simp) hz
      have hd := fallback_data hz
      have hq := aeval_same ht hd
      have e1 : v' = v := by have := hq x (by simp [hop, Op.operands]); rw [k1, q1] at this; exact Option.some.inj this
      have eo : ∀ (y : Option Operand) (p p' : Option Value), (∀ z ∈ y.toList, z ∈ o.op.operands.toList) → aevalo tm y = some p → aevalo tm' y = some p' → p' = p := by
        intro y p p' hy a1 a2
        cases y with
        | none => simp only [aevalo] at a1 a2; cases a1; cases a2; rfl
        | some y =>
          have := hq y (hy y (by simp))
          simp only [aevalo, this] at a1 a2
          rw [a1] at a2; cases a2; rfl
      have e2 := eo lo _ _ (fun z hz => by simp [hop, Op.operands] at hz ⊢; simp [hz]) q2 k3
      have e3 := eo hi _ _ (fun z hz => by simp [hop, Op.operands] at hz ⊢; simp [hz]) q3 k5
      have e4 := eo mx _ _ (fun z hz => by simp [hop, Op.operands] at hz ⊢; simp [hz]) q4 k7
      exact ⟨by rw [e1, e2, e3, e4]; exact h0, z, g1, RN.of_closed g2⟩
    · cases hv
  · rename_i s x f hop
    unfold aop
    rw [hop]
    split at hv
    · rename_i v q1
      obtain ⟨v', k1, k2⟩ := ht x (by simp [hop, Op.operands]) _ q1
      simp only [k1]
      exact goodn_val hv hn fun w hq => afield_rn hq k2
    · cases hv
  · rename_i t x f hop
    unfold aop
    rw [hop]
    split at hv
    · rename_i cs fields q1 q2
      obtain ⟨v', k1, k2⟩ := ht x (by simp [hop, Op.operands]) _ q1
      split at hv
      · rename_i fd hfd
        cases k2 with
        | same hp => simp [plain] at hp
        | agg hs hx =>
          simp only [k1, q2, hfd]
          exact goodn_val hv hn fun w hq => apart_rn hq (RNs.of_arr hs hx)
      · cases hv
    · cases hv
  · rename_i t x ix hop
    unfold aop
    rw [hop]
    split at hv
    · rename_i u v q1 q2
      obtain ⟨u', k1, k2⟩ := ht x (by simp [hop, Op.operands]) _ q1
      obtain ⟨v', k3, k4⟩ := ht ix (by simp [hop, Op.operands]) _ q2
      simp only [k1, k3]
      exact goodn_val hv hn fun w hq => aindexAddr_rn hq k2 k4
    · cases hv
  · rename_i t x ix hop
    unfold aop
    rw [hop]
    split at hv
    · rename_i u v q1 q2
      obtain ⟨u', k1, k2⟩ := ht x (by simp [hop, Op.operands]) _ q1
      obtain ⟨v', k3, k4⟩ := ht ix (by simp [hop, Op.operands]) _ q2
      simp only [k1, k3]
      refine goodn_or hv hn (fun z hz => aindex_rn hz k2 k4) fun z h0 hz => ?_
      obtain ⟨g1, g2⟩ := fallback_rn ht (by rw [hop]; simp) hz
      have hq := aeval_same ht (fallback_data hz)
      have e1 : u' = u := by have := hq x (by simp [hop, Op.operands]); rw [k1, q1] at this; exact Option.some.inj this
      have e2 : v' = v := by have := hq ix (by simp [hop, Op.operands]); rw [k3, q2] at this; exact Option.some.inj this
      exact ⟨by rw [e1, e2]; exact h0, z, g1, RN.of_closed g2⟩
    · cases hv
  · rename_i x i hop
    unfold aop
    rw [hop]
    split at hv
    · rename_i vs q1
      obtain ⟨v', k1, k2⟩ := ht x (by simp [hop, Op.operands]) _ q1
      cases k2 with
      | same hp => simp [plain] at hp
      | tuple hs hx =>
        simp only [k1]
        refine goodn_val hv hn fun w hq => ?_
        obtain ⟨y, g1, g2⟩ := (RNs.of_arr hs hx).2 i w (by simpa using hq)
        exact ⟨y, by simpa using g1, g2⟩
    · cases hv
  · rename_i c hop
    unfold aop
    rw [hop]
    exact acall_rn hop hv hn ht
  · rename_i op t x hne hop
    have key : GoodN e h H (val (fallback P tm' o) H) r h1 := goodn_val hv hn fun z hz => by
      obtain ⟨g1, g2⟩ := fallback_rn ht (by rw [hop]; simp) hz
      exact ⟨z, g1, RN.of_closed g2⟩
    unfold aop
    rw [hop]
    cases op <;> first | exact absurd rfl hne | exact key
  · cases hv
end
end Go.Ev
