/- Code on values that are not known whole. -/
import Derived.Test.YthmcpmdohmfeiaaGreatDoorEvWn
namespace Go.Ev
open Go
set_option linter.unusedVariables false
set_option linter.unusedSimpArgs false
set_option linter.constructorNameAsVariable false
noncomputable section
def sOp (op : Op) : Hd := match op with
  | .move x => hMove x
  | .assign x => hMove x
  | .pick c a b => hPick c a b
  | .alloc e => hAlloc e
  | .box e x => hBox e x
  | .build t ps => hBuild t ps
  | .buildSlice t n ps => hBuildSlice t n ps
  | .load t a => hLoad t a
  | .store t a x => hStore t a x
  | .nilCheck x => hNil x
  | .binOp op t x y _ => hBin op t x y
  | .unOp .not _ x => hNot x
  | .convert s d x => hConvert s d x
  | .makeFunc fn fs cs => hMakeFunc fn fs cs
  | .makeSlice t l c => hMakeSlice t l c
  | .slice t x lo hi mx => hSlice t x lo hi mx
  | .fieldAddr s x f => hFieldAddr s x f
  | .field t x f => hField t x f
  | .indexAddr t x ix => hIndexAddr t x ix
  | .index t x ix => hIndex t x ix
  | .extract x i => hExtract x i
  | .call c => hBltM c
  | .makeMap t none => hMakeMap t
  | .lookup t x i ok => hLookup t x i ok
  | .mapUpdate t x i y => hMapUpdate t x i y
  | .mapEntry t x i => hMapEntry t x i
  | .entryStore _ x s y => hEntryStore x s y
  | .range t x => hRange t x
  | .next x false => hNext x
  | .entry x => hEntry x
  | _ => fun _ _ _ _ _ _ => false
theorem sOp_ok {ρ : Nat → Nat} {E : Env} (hE : EnvOk ρ E) (op : Op) : HdOk ρ E op (sOp op) := by
  unfold sOp
  split
  · exact hMove_ok _ _ _
  · exact hAssign_ok _ _ _
  · exact hPick_ok _ _ _ _ _
  · exact hAlloc_ok hE _
  · exact hBox_ok _ _ _ _
  · exact hBuild_ok hE _ _
  · exact hBuildSlice_ok hE _ _ _
  · exact hLoad_ok _ _ _ _
  · exact hStore_ok _ _ _ _ _
  · exact hNil_ok _ _ _
  · exact hBin_ok hE _ _ _ _ _
  · exact hNot_ok _ _ _ _
  · exact hConvert_ok _ _ _ _ _
  · exact hMakeFunc_ok _ _ _ _ _
  · exact hMakeSlice_ok hE _ _ _
  · exact hSlice_ok _ _ _ _ _ _ _
  · exact hFieldAddr_ok _ _ _ _ _
  · exact hField_ok _ _ _ _ _
  · exact hIndexAddr_ok _ _ _ _ _
  · exact hIndex_ok _ _ _ _ _
  · exact hExtract_ok _ _ _ _
  · exact hBltM_ok hE _
  · exact hMakeMap_ok _ _ _
  · exact hLookup_ok hE _ _ _ _
  · exact hMapUpdate_ok hE _ _ _ _
  · exact hMapEntry_ok hE _ _ _
  · exact hEntryStore_ok _ _ _ _ _ _
  · exact hRange_ok _ _ _ _
  · exact hNext_ok _ _ _
  · exact hEntry_ok _ _ _
  · intro tm tr hT o t n K ho h; cases h
/-! A step -/
abbrev KS := Tm → HT → Nat → Bool
abbrev Cf := FuncId → List SV → HT → Nat → KV → Bool
structure SRel (ρ : Nat → Nat) (tm : Tm) (t : HT) (m : Nat) (s : St) : Prop where
  tm : TRel ρ tm s.tm
  H : s.H = instH ρ t m
def CfOk (ρ : Nat → Nat) (E : Env) (cf : Cf) : Prop := ∀ g args t m K (R : Value → Heap → Prop), cf g args t m K = true → (∀ v t' m', K v t' m' = true → R (v.inst ρ) (instH ρ t' m')) → ACall E.P E.T g ⟨instL ρ args⟩ (instH ρ t m) R
def finK (n : Nat) (dst : Option Tmp) (v : SV) (tm : Tm) (t : HT) (m : Nat) (K : KS) : Bool := Option.rec (motive := fun _ => Bool) (K tm t m) (fun d => ifK (d.blt n) (pT d v tm fun tm => K tm t m) false) dst
theorem finK_true {ρ : Nat → Nat} {n : Nat} {dst : Option Tmp} {v : SV} {tm : Tm} {tr : Tr Value} (hT : TRel ρ tm tr) {t : HT} {m : Nat} {K : KS} {Q : St → Prop} (h : finK n dst v tm t m K = true) (hQ : ∀ tm t m s, K tm t m = true → SRel ρ tm t m s → Q s) : APut n dst (v.inst ρ) tr (instH ρ t m) Q := by
  cases dst with
  | none => exact aput_k rfl (hQ _ _ _ _ h ⟨hT, rfl⟩)
  | some d =>
    obtain ⟨h1, h⟩ := ifF_true h
    obtain ⟨tm', h2, h⟩ := pT_true hT h
    exact aput_k (tm' := tr.put d (some (v.inst ρ))) (by simp only [dput, h1, cond_true]) (hQ _ _ _ _ h ⟨h2, rfl⟩)
def truU (v : SV) (a b c : Bool) : Bool := B4.rec (motive := fun _ => Bool) false a b c (asB v)
theorem truU_true {v : SV} {a b c : Bool} (h : truU v a b c = true) : (v = .t ∧ a = true) ∨ (v = .f ∧ b = true) ∨ (v = .u ∧ c = true) := by
  unfold truU at h
  cases ha : asB v with
  | no => rw [ha] at h; cases h
  | u => rw [ha] at h; exact .inr (.inr ⟨asB_u ha, h⟩)
  | t => rw [ha] at h; exact .inl ⟨asB_t ha, h⟩
  | f => rw [ha] at h; exact .inr (.inl ⟨asB_f ha, h⟩)
def wantK (ops : Array Oper) (tm : Tm) (o : Oper) (A B : Bool) : Bool := Option.rec (motive := fun _ => Bool) A (fun p => bnd ((ops[p.1]?).bind (·.dst)) fun d => gT d tm fun v => truU v (ifK p.2 A B) (ifK p.2 B A) B) o.guard
theorem wantK_true {ρ : Nat → Nat} {ops : Array Oper} {tm : Tm} {tr : Tr Value} (hT : TRel ρ tm tr) {o : Oper} {A B : Bool} (h : wantK ops tm o A B = true) : (awanted ops tr o = true ∧ A = true) ∨ (awanted ops tr o = false ∧ B = true) := by
  unfold wantK at h
  unfold awanted
  cases hg : o.guard with
  | none => rw [hg] at h; exact .inl ⟨rfl, h⟩
  | some p =>
    rw [hg] at h
    obtain ⟨j, w⟩ := p
    obtain ⟨d, h1, h⟩ := bnd_true (r := (ops[j]?).bind (·.dst)) h
    obtain ⟨v, h3, h⟩ := gT_true hT h
    simp only [h1]
    rcases truU_true h with ⟨rfl, h⟩ | ⟨rfl, h⟩ | ⟨rfl, h⟩
    · have hg : tr.get d = some (.bool true) := by
        cases hh : tr.get d with
        | none => rw [hh] at h3; cases h3
        | some x => rw [hh] at h3; exact congrArg some h3
      rw [hg]
      rcases ifK_true h with ⟨h3, h⟩ | ⟨h3, h⟩ <;> simp only at h3 <;> subst h3
      · exact .inl ⟨rfl, h⟩
      · exact .inr ⟨rfl, h⟩
    · have hg : tr.get d = some (.bool false) := by
        cases hh : tr.get d with
        | none => rw [hh] at h3; cases h3
        | some x => rw [hh] at h3; exact congrArg some h3
      rw [hg]
      rcases ifK_true h with ⟨h3, h⟩ | ⟨h3, h⟩ <;> simp only at h3 <;> subst h3
      · exact .inr ⟨rfl, h⟩
      · exact .inl ⟨rfl, h⟩
    · refine .inr ⟨?_, h⟩
      cases hh : tr.get d with
      | none => rfl
      | some x =>
        rw [hh] at h3
        have h3 : x = undef := h3
        subst h3; rfl
def isVal (op : Op) : Option (Operand × List Operand) := match op with
  | .call c => (match c.callee with | .value f => some (f, c.args.toList) | _ => none)
  | _ => none
def fnK (v : SV) (K : FuncId → List SV → List SV → Bool) : Bool := match v with
  | .fn g fs cs => K g fs cs
  | _ => false
def callK (E : Env) (cf : Cf) (f : Operand) (args : List Operand) (tm : Tm) (t : HT) (m : Nat) (K : KV) : Bool := evK f tm fun v => fnK v fun g fs cs => evsK args tm fun l => catK fs l fun l => catK l cs fun l => ifK (E.T.can g).isSome (cf g l t m K) false
theorem callK_true {ρ : Nat → Nat} {E : Env} {cf : Cf} (hcf : CfOk ρ E cf) {o : Oper} {f : Operand} {args : List Operand} {tm : Tm} {tr : Tr Value} (hT : TRel ρ tm tr) {t : HT} {m : Nat} {K : KV} (hv : isVal o.op = some (f, args)) (h : callK E cf f args tm t m K = true) :
    ∃ g a, aop E.P E.T tr o (instH ρ t m) = some (.enter g a, instH ρ t m) ∧ ∀ R : Value → Heap → Prop, (∀ v t' m', K v t' m' = true → R (v.inst ρ) (instH ρ t' m')) → ACall E.P E.T g a (instH ρ t m) R := by
  obtain ⟨v, h1, h⟩ := evK_true hT h
  unfold fnK at h
  split at h
  · rename_i g fs cs
    obtain ⟨l, h2, h⟩ := evsK_true hT h
    rw [catK_eq, catK_eq] at h
    obtain ⟨h3, h⟩ := ifF_true h
    refine ⟨g, ⟨instL ρ (fs ++ l ++ cs)⟩, ?_, fun R hR => hcf _ _ _ _ _ R h hR⟩
    unfold isVal at hv
    split at hv
    · rename_i c ho
      split at hv
      · rename_i f' hc
        cases hv
        obtain ⟨fn, hfn⟩ := Option.isSome_iff_exists.1 h3
        unfold aop
        simp only [ho, acall, hc, h1, h2, SV.inst, hfn]
        congr 3
        simp [instL_map]
      · cases hv
    · cases hv
  · cases h
/-- An operation that a flag may turn off; what comes behind is named once. -/
def guardJ (v : SV) (w : Bool) (F : KV → Bool) (J : KV) (t : HT) (m : Nat) : Bool := truU v (ifK w (F J) (J .u t m)) (ifK w (J .u t m) (F J)) (J .u t m)
def wantJ (ops : Array Oper) (tm : Tm) (o : Oper) (F : KV → Bool) (J : KV) (t : HT) (m : Nat) : Bool := Option.rec (motive := fun _ => Bool) (F J) (fun p => bnd ((ops[p.1]?).bind (·.dst)) fun d => gT d tm fun v => guardJ v p.2 F J t m) o.guard
theorem wantJ_true {ρ : Nat → Nat} {ops : Array Oper} {tm : Tm} {tr : Tr Value} (hT : TRel ρ tm tr) {o : Oper} {F : KV → Bool} {J : KV} {t : HT} {m : Nat} (h : wantJ ops tm o F J t m = true) : (awanted ops tr o = true ∧ F J = true) ∨ (awanted ops tr o = false ∧ J .u t m = true) := by
  refine wantK_true hT (A := F J) (B := J .u t m) ?_
  unfold wantJ guardJ at h
  exact h
def stepK (E : Env) (n : Nat) (cf : Cf) (ops : Array Oper) (o : Oper) (tm : Tm) (t : HT) (m : Nat) (K : KS) : Bool :=
  wantJ ops tm o (fun J => Option.rec (motive := fun _ => Bool) (sOp o.op E tm o t m J) (fun p => callK E cf p.1 p.2 tm t m J) (isVal o.op)) (fun v t m => finK n o.dst v tm t m K) t m
theorem stepK_true {ρ : Nat → Nat} {E : Env} (hE : EnvOk ρ E) {n : Nat} {cf : Cf} (hcf : CfOk ρ E cf) {ops : Array Oper} {o : Oper} {tm : Tm} {t : HT} {m : Nat} {K : KS} {Q : St → Prop} (h : stepK E n cf ops o tm t m K = true) (hQ : ∀ tm t m s, K tm t m = true → SRel ρ tm t m s → Q s) {s : St} (hs : SRel ρ tm t m s) :
    AStep E.P E.T n ops o Q s := by
  obtain ⟨tr, H⟩ := s
  obtain ⟨hT, hH⟩ := hs
  simp only at hT hH
  subst hH
  unfold AStep
  rcases wantJ_true hT h with ⟨h1, h⟩ | ⟨h1, h⟩
  · simp only [h1, cond_true]
    cases hv : isVal o.op with
    | none =>
      rw [hv] at h
      obtain ⟨v, t', n', h2, h⟩ := sOp_ok hE o.op tm tr hT o t m _ rfl h
      rcases h2 with h2 | ⟨rfl, h2⟩
      · rw [h2]; exact finK_true hT h hQ
      · rw [h2]; exact finK_true hT (v := .u) h hQ
    | some p =>
      rw [hv] at h
      obtain ⟨f, args⟩ := p
      obtain ⟨g, a, h2, h3⟩ := callK_true hcf hT hv h
      rw [h2]
      exact h3 _ fun v t' m' hk => finK_true hT hk hQ
  · simp only [h1, cond_false]
    exact finK_true hT (v := .u) h hQ
def opsK (E : Env) (n : Nat) (cf : Cf) (ops : Array Oper) (l : List Oper) : Tm → HT → Nat → KS → Bool := List.rec (motive := fun _ => Tm → HT → Nat → KS → Bool) (fun tm t m K => K tm t m) (fun o _ ih tm t m K => stepK E n cf ops o tm t m fun tm t m => ih tm t m K) l
theorem opsK_true {ρ : Nat → Nat} {E : Env} (hE : EnvOk ρ E) {n : Nat} {cf : Cf} (hcf : CfOk ρ E cf) {ops : Array Oper} {Q : St → Prop} : ∀ {l : List Oper} {tm : Tm} {t : HT} {m : Nat} {K : KS}, opsK E n cf ops l tm t m K = true → (∀ tm t m s, K tm t m = true → SRel ρ tm t m s → Q s) → ∀ s, SRel ρ tm t m s → AOps E.P E.T n ops l Q s := by
  intro l
  induction l with
  | nil => intro tm t m K h hQ s hs; exact aops_nil (hQ _ _ _ _ h hs)
  | cons o l ih =>
    intro tm t m K h hQ s hs
    exact aops_cons (stepK_true hE hcf (K := fun tm t m => opsK E n cf ops l tm t m K) h (fun tm t m s hk hs => ih hk hQ s hs) hs)
/-! Where loads may stand elsewhere -/
structure SS where
  tm : Tm
  t : HT
  m : Nat
def SS.rel (ρ : Nat → Nat) (x : SS) (s : St) : Prop := SRel ρ x.tm x.t x.m s
inductive SSs (ρ : Nat → Nat) : List SS → List St → Prop
  | nil : SSs ρ [] []
  | cons {x : SS} {s : St} {r : List SS} {l : List St} (h : x.rel ρ s) (t : SSs ρ r l) : SSs ρ (x :: r) (s :: l)
theorem SSs.at {ρ : Nat → Nat} {r : List SS} {l : List St} (h : SSs ρ r l) : ∀ {i : Nat} {x : SS}, r[i]? = some x → ∃ s, l[i]? = some s ∧ x.rel ρ s := by
  induction h with
  | nil => intro i x h; simp at h
  | cons h t ih =>
    intro i x hx
    cases i with
    | zero => simp at hx; subst hx; exact ⟨_, rfl, h⟩
    | succ i => obtain ⟨s, h1, h2⟩ := ih (i := i) (by simpa using hx); exact ⟨s, by simpa using h1, h2⟩
def trK (E : Env) (n : Nat) (cf : Cf) (ops : Array Oper) (l : List Oper) : Tm → HT → Nat → (List SS → KS) → Bool := List.rec (motive := fun _ => Tm → HT → Nat → (List SS → KS) → Bool) (fun tm t m K => K [⟨tm, t, m⟩] tm t m)
  (fun o _ ih tm t m K => stepK E n cf ops o tm t m fun tm' t' m' => ih tm' t' m' fun r tm2 t2 m2 => K (⟨tm, t, m⟩ :: r) tm2 t2 m2) l
theorem trK_true {ρ : Nat → Nat} {E : Env} (hE : EnvOk ρ E) {n : Nat} {cf : Cf} (hcf : CfOk ρ E cf) {ops : Array Oper} {Q : List St → St → Prop} : ∀ {l : List Oper} {acc : List St} {tm : Tm} {t : HT} {m : Nat} {K : List SS → KS}, trK E n cf ops l tm t m K = true →
    (∀ r rs tm t m s, K r tm t m = true → SSs ρ r rs → SRel ρ tm t m s → Q (acc ++ rs) s) → ∀ s, SRel ρ tm t m s → ATr E.P E.T n ops l acc Q s := by
  intro l
  induction l with
  | nil => intro acc tm t m K h hQ s hs; exact hQ _ [s] _ _ _ _ h (.cons hs .nil) hs
  | cons o l ih =>
    intro acc tm t m K h hQ s hs
    refine stepK_true hE hcf (K := fun tm' t' m' => trK E n cf ops l tm' t' m' fun r tm2 t2 m2 => K (⟨tm, t, m⟩ :: r) tm2 t2 m2) h (fun tm' t' m' s' hk hs' => ih hk (fun r rs tm2 t2 m2 s2 hk2 hr hs2 => ?_) s' hs') hs
    have := hQ _ (s :: rs) _ _ _ _ hk2 (.cons hs hr) hs2
    simpa using this
def svEq0 : SV → SV → Bool
  | .n k a, .n k' b => k == k' && a.beq b
  | .z k a, .z k' b => k == k' && a.beq b
  | .w k x, .w k' y => k == k' && wEq x y
  | .t, .t => true
  | .f, .f => true
  | .p b o, .p b' o' => b.beq b' && o.beq o'
  | .np, .np => true
  | .sl b o l c, .sl b' o' l' c' => b.beq b' && o.beq o' && l.beq l' && c.beq c'
  | .ns, .ns => true
  | .m b, .m b' => b.beq b'
  | .nm, .nm => true
  | .nf, .nf => true
  | _, _ => false
def svEqs : List SV → List SV → Bool
  | [], [] => true
  | u :: a, v :: b => svEq0 u v && svEqs a b
  | _, _ => false
def svEq : SV → SV → Bool
  | .ag l, .ag l' => svEqs l l'
  | .st l, .st l' => svEqs l l'
  | u, v => svEq0 u v
theorem svEq0_spec (ρ : Nat → Nat) {u v : SV} (h : svEq0 u v = true) : u = v ∧ veq0 (u.inst ρ) (v.inst ρ) = true := by
  unfold svEq0 at h
  split at h
  all_goals first
    | (cases h; done)
    | exact ⟨rfl, rfl⟩
    | (simp only [Bool.and_eq_true, beq_iff_eq, Nat.beq_eq] at h
       first
        | (obtain ⟨rfl, h⟩ := h
           first
            | (obtain rfl := wEq_sound _ _ h; exact ⟨rfl, by simp [SV.inst, veq0]⟩)
            | (subst h; exact ⟨rfl, by simp [SV.inst, veq0]⟩))
        | (obtain ⟨⟨⟨rfl, rfl⟩, rfl⟩, rfl⟩ := h; exact ⟨rfl, by simp [SV.inst, veq0]⟩)
        | (subst h; exact ⟨rfl, by simp [SV.inst, veq0]⟩))
theorem svEqs_spec (ρ : Nat → Nat) : ∀ {a b : List SV}, svEqs a b = true → a = b ∧ veqs (instL ρ a) (instL ρ b) = true := by
  intro a
  induction a with
  | nil => intro b h; cases b with
    | nil => exact ⟨rfl, rfl⟩
    | cons v b => cases h
  | cons u a ih =>
    intro b h
    cases b with
    | nil => cases h
    | cons v b =>
      simp only [svEqs, Bool.and_eq_true] at h
      obtain ⟨rfl, h1⟩ := svEq0_spec ρ h.1
      obtain ⟨rfl, h2⟩ := ih h.2
      exact ⟨rfl, by simp only [instL, veqs, h1, h2, Bool.and_self]⟩
theorem veq_of0 {u v : Value} (h : veq0 u v = true) : veq u v = true := by
  unfold veq
  split
  · simp [veq0] at h
  · exact h
theorem svEq_spec (ρ : Nat → Nat) {u v : SV} (h : svEq u v = true) : veq (u.inst ρ) (v.inst ρ) = true := by
  unfold svEq at h
  split at h
  · obtain ⟨rfl, h1⟩ := svEqs_spec ρ h; exact h1
  · obtain ⟨rfl, h1⟩ := svEqs_spec ρ h
    simp [SV.inst, veq, veq0]
  · exact veq_of0 (svEq0_spec ρ h).2
def lkK (T : Tab) (op : Op) (v : SV) (t : HT) (K : SV → Bool) : Bool := match op with
  | .load ty _ => ldK T ty v t K
  | .convert s d _ => convK T s d v t K
  | _ => false
theorem lkK_true (ρ : Nat → Nat) {T : Tab} {op : Op} {v : SV} {t : HT} {n : Nat} {K : SV → Bool} (h : lkK T op v t K = true) : ∃ u, alook T op (v.inst ρ) (instH ρ t n) = some (u.inst ρ) ∧ K u = true := by
  unfold lkK at h
  split at h
  · exact ldK_true ρ h
  · exact convK_true ρ h
  · cases h
def stdB (E : Env) (ops : Array Oper) (l : List SS) (p : Nat × Nat) : Bool := nthK l p.1 fun s => bnd ops[p.1]? fun o => wantK ops s.tm o
  (bnd (lookArg o.op) fun a => evK a s.tm fun v => nthK l p.2 fun s1 => nthK l (p.2 + 1) fun s2 => lkK E.T o.op v s.t fun u => lkK E.T o.op v s1.t fun u1 => lkK E.T o.op v s2.t fun u2 => ifK (svEq u1 u) (svEq u2 u) false) true
theorem stdB_true {ρ : Nat → Nat} {E : Env} {ops : Array Oper} {l : List SS} {rs : List St} (hr : SSs ρ l rs) {p : Nat × Nat} (h : stdB E ops l p = true) : steady E.T ops rs p = true := by
  obtain ⟨x, h1, h⟩ := nthK_true h
  obtain ⟨s, hs, ⟨hT, hH⟩⟩ := hr.at h1
  obtain ⟨o, h2, h⟩ := bnd_true (r := ops[p.1]?) h
  unfold steady
  simp only [hs, h2]
  rcases wantK_true hT h with ⟨h3, h⟩ | ⟨h3, _⟩
  · rw [h3]
    obtain ⟨a, h4, h⟩ := bnd_true (r := lookArg o.op) h
    obtain ⟨v, h5, h⟩ := evK_true hT h
    obtain ⟨x1, h6, h⟩ := nthK_true h
    obtain ⟨x2, h7, h⟩ := nthK_true h
    obtain ⟨s1, k1, ⟨_, hH1⟩⟩ := hr.at h6
    obtain ⟨s2, k2, ⟨_, hH2⟩⟩ := hr.at h7
    obtain ⟨u, h8, h⟩ := lkK_true ρ (n := x.m) h
    obtain ⟨u1, h9, h⟩ := lkK_true ρ (n := x1.m) h
    obtain ⟨u2, h10, h⟩ := lkK_true ρ (n := x2.m) h
    obtain ⟨h11, h12⟩ := ifF_true h
    rw [← hH] at h8
    rw [← hH1] at h9
    rw [← hH2] at h10
    simp only [cond_true, h4, h5, k1, k2, h8, h9, h10, svEq_spec ρ h11, svEq_spec ρ h12, Bool.and_self]
  · rw [h3]; rfl
def stdAll (E : Env) (ops : Array Oper) (l : List SS) (ps : List (Nat × Nat)) (K : Bool) : Bool := List.rec (motive := fun _ => Bool) K (fun p _ ih => ifK (stdB E ops l p) ih false) ps
theorem stdAll_true {ρ : Nat → Nat} {E : Env} {ops : Array Oper} {l : List SS} {rs : List St} (hr : SSs ρ l rs) {K : Bool} : ∀ {ps : List (Nat × Nat)}, stdAll E ops l ps K = true → ps.all (steady E.T ops rs) = true ∧ K = true := by
  intro ps
  induction ps with
  | nil => intro h; exact ⟨rfl, h⟩
  | cons p ps ih =>
    intro h
    obtain ⟨h1, h⟩ := ifF_true h
    obtain ⟨h2, h3⟩ := ih h
    exact ⟨by rw [List.all_cons, stdB_true hr h1, h2]; rfl, h3⟩
def regK (E : Env) (n : Nat) (cf : Cf) (ops : Array Oper) (draw : Bool) (tm : Tm) (t : HT) (m : Nat) (K : KS) : Bool := Bool.rec (motive := fun _ => Bool) (opsK E n cf ops ops.toList tm t m K)
  (List.rec (motive := fun _ => Bool) (opsK E n cf ops ops.toList tm t m K) (fun p ps _ => trK E n cf ops ops.toList tm t m fun l tm t m => stdAll E ops l (p :: ps) (K tm t m)) (loose E.T ops)) draw
theorem regK_true {ρ : Nat → Nat} {E : Env} (hE : EnvOk ρ E) {n : Nat} {cf : Cf} (hcf : CfOk ρ E cf) {id : Nat} {ops : Array Oper} {draw : Bool} {tm : Tm} {t : HT} {m : Nat} {K : KS} {Q : Xt → St → Prop} (h : regK E n cf ops draw tm t m K = true) (hQ : ∀ tm t m s, K tm t m = true → SRel ρ tm t m s → Q .normal s) {s : St} (hs : SRel ρ tm t m s) :
    Aw E.P E.T n (.region id ops draw) Q s := by
  cases draw
  · exact aw_region (opsK_true hE hcf h hQ s hs)
  · obtain ⟨l⟩ := ops
    unfold regK at h
    cases hl : loose E.T l.toArray with
    | nil =>
      rw [hl] at h
      exact aw_draw0 hl (opsK_true hE hcf h hQ s hs)
    | cons p ps =>
      rw [hl] at h
      refine aw_draw (trK_true hE hcf (acc := []) h (fun r rs tm t m s hk hr hs => ?_) s hs)
      obtain ⟨h1, h2⟩ := stdAll_true hr hk
      exact ⟨by rw [hl, List.nil_append]; exact h1, hQ _ _ _ _ h2 hs⟩
/-! Code -/
abbrev KX := Xt → Tm → HT → Nat → Bool
abbrev Cd := Nat → Code → Tm → HT → Nat → KX → Bool
def initK (l : List SV) : Nat → Tm → (Tm → Bool) → Bool := List.rec (motive := fun _ => Nat → Tm → (Tm → Bool) → Bool) (fun _ tm K => K tm) (fun v _ ih k tm K => pT k v tm fun tm => fN (Nat.succ k) fun k => ih k tm K) l
theorem initK_true (ρ : Nat → Nat) : ∀ {l : List SV} {k : Nat} {tm : Tm} {tr : Tr Value} {K : Tm → Bool}, TRel ρ tm tr → initK l k tm K = true → ∃ tm', TRel ρ tm' (initTm.go (instL ρ l) k tr) ∧ K tm' = true := by
  intro l
  induction l with
  | nil => intro k tm tr K hT h; exact ⟨tm, hT, h⟩
  | cons v l ih =>
    intro k tm tr K hT h
    obtain ⟨tm', h1, h⟩ := pT_true hT h
    rw [fN_eq] at h
    exact ih h1 h
def resK (T : Tab) (rs : List ResultVar) (tm : Tm) (t : HT) : (List SV → Bool) → Bool := List.rec (motive := fun _ => (List SV → Bool) → Bool) (fun K => K []) (fun r _ ih K => ResultVar.rec (motive := fun _ => Bool) (fun x => gT x tm fun v => ih fun l => K (v :: l)) (fun a ty => gT a tm fun v => ldK T ty v t fun u => ih fun l => K (u :: l)) r) rs
theorem resK_true {ρ : Nat → Nat} {T : Tab} {tm : Tm} {tr : Tr Value} (hT : TRel ρ tm tr) {t : HT} {m : Nat} : ∀ {rs : List ResultVar} {K : List SV → Bool}, resK T rs tm t K = true → ∃ l, results1 T tr (instH ρ t m) rs = some (instL ρ l) ∧ K l = true := by
  intro rs
  induction rs with
  | nil => intro K h; exact ⟨[], rfl, h⟩
  | cons r rs ih =>
    intro K h
    cases r with
    | tmp x =>
      have h : gT x tm (fun v => resK T rs tm t fun l => K (v :: l)) = true := h
      obtain ⟨v, h1, h⟩ := gT_true hT h
      obtain ⟨l, h2, h⟩ := ih h
      exact ⟨v :: l, by simp only [results1, h2, h1, instL], h⟩
    | cell a ty =>
      have h : gT a tm (fun v => ldK T ty v t fun u => resK T rs tm t fun l => K (u :: l)) = true := h
      obtain ⟨v, h1, h⟩ := gT_true hT h
      obtain ⟨u, h2, h⟩ := ldK_true ρ (n := m) h
      obtain ⟨l, h3, h⟩ := ih h
      exact ⟨u :: l, by simp only [results1, h3, h1, h2, instL], h⟩
def outK (l : List SV) (K : SV → Bool) : Bool := List.rec (motive := fun _ => Bool) (K (.tu [])) (fun v r _ => List.rec (motive := fun _ => Bool) (K v) (fun _ _ _ => K (.tu l)) r) l
theorem outK_true (ρ : Nat → Nat) {T : Tab} {tm : Tr Value} {H : Heap} {rs : Array ResultVar} {l : List SV} {K : SV → Bool} (hr : results1 T tm H rs.toList = some (instL ρ l)) (h : outK l K = true) : ∃ v, aresults T tm H rs = some (SV.inst ρ v) ∧ K v = true := by
  have tup : ∀ l', l = l' → l'.length ≠ 1 → K (.tu l') = true → ∃ v, aresults T tm H rs = some (SV.inst ρ v) ∧ K v = true := fun l' e hl hk => by
    subst e
    refine ⟨.tu l, ?_, hk⟩
    unfold aresults
    rw [hr]
    cases l with
    | nil => rfl
    | cons a l => cases l with
      | nil => exact absurd rfl hl
      | cons b l => rfl
  cases l with
  | nil => exact tup [] rfl (by simp) h
  | cons v r => cases r with
    | nil => exact ⟨v, by unfold aresults; rw [hr]; rfl, h⟩
    | cons b r => exact tup _ rfl (by simp) h
def clK (E : Env) (cd : Cd) : Cf := fun g args t m K => Option.rec (motive := fun _ => Bool)
  (bnd (E.T.fn g) fun fn => bnd fn.body fun c => fN (args.length + (fn.ntmps - args.length)) fun n => initK args 0 e3 fun tm => cd n c tm t m fun x tm t m => Xt.rec (motive := fun _ => Bool)
    (resK E.T fn.results.toList tm t fun l => outK l fun v => K v t m) (resK E.T fn.results.toList tm t fun l => outK l fun v => K v t m) (fun _ => false) x)
  (fun h => h args t m K) (E.mac g)
def CdOk (ρ : Nat → Nat) (E : Env) (cd : Cd) : Prop := ∀ n c tm t m K (Q : Xt → St → Prop), cd n c tm t m K = true → (∀ x tm t m s, K x tm t m = true → SRel ρ tm t m s → Q x s) → ∀ s, SRel ρ tm t m s → Aw E.P E.T n c Q s
theorem instL_len (ρ : Nat → Nat) (l : List SV) : (instL ρ l).length = l.length := by rw [instL_map, List.length_map]
theorem clK_ok {ρ : Nat → Nat} {E : Env} (hE : EnvOk ρ E) {cd : Cd} (hcd : CdOk ρ E cd) : CfOk ρ E (clK E cd) := by
  intro g args t m K R h hR
  unfold clK at h
  cases hm : E.mac g with
  | some f =>
    rw [hm] at h
    exact hE.mac g f hm args t m K R h hR
  | none =>
    rw [hm] at h
    obtain ⟨fn, h1, h⟩ := bnd_true (r := E.T.fn g) h
    obtain ⟨c, h2, h⟩ := bnd_true (r := fn.body) h
    rw [fN_eq] at h
    obtain ⟨tm, h3, h⟩ := initK_true ρ (TRel.empty ρ) h
    refine acall_of' (args.length + (fn.ntmps - args.length)) _ (hE.orc _ _) h1 h2 (by show (instL ρ args).length + (fn.ntmps - (instL ρ args).length) = _; rw [instL_len]) rfl (hcd _ _ _ _ _ _ _ h (fun x tm t m s hk hs => ?_) ⟨_, _⟩ ⟨h3, rfl⟩)
    obtain ⟨tr, H⟩ := s
    obtain ⟨hT, hH⟩ := hs
    simp only at hT hH
    subst hH
    cases x with
    | normal =>
      obtain ⟨l, h4, h5⟩ := resK_true hT (m := m) hk
      obtain ⟨v, h6, h7⟩ := outK_true ρ h4 h5
      exact bodyQ_normal ⟨_, h6, hR _ _ _ h7⟩
    | ret =>
      obtain ⟨l, h4, h5⟩ := resK_true hT (m := m) hk
      obtain ⟨v, h6, h7⟩ := outK_true ρ h4 h5
      exact bodyQ_ret ⟨_, h6, hR _ _ _ h7⟩
    | exit i => cases hk
def cdS (E : Env) (cf : Cf) (cd : Cd) : Cd := fun n c tm t m K => match c with
  | .skip => K .normal tm t m
  | .label _ => K .normal tm t m
  | .ret => K .ret tm t m
  | .exit i => K (.exit i) tm t m
  | .region _ ops draw => regK E n cf ops draw tm t m fun tm t m => K .normal tm t m
  | .seq a b => cd n a tm t m fun x tm t m => Xt.rec (motive := fun _ => Bool) (cd n b tm t m K) (K .ret tm t m) (fun i => K (.exit i) tm t m) x
  | .cond x a b => evK x tm fun v => truK v (cd n a tm t m K) (cd n b tm t m K)
  | .block id c => cd n c tm t m fun x tm t m => Xt.rec (motive := fun _ => Bool) (K .normal tm t m) (K .ret tm t m) (fun i => ifK (i.beq id) (K .normal tm t m) (K (.exit i) tm t m)) x
  | .loop c => cd n c tm t m fun x tm t m => Xt.rec (motive := fun _ => Bool) (cd n (.loop c) tm t m K) (K .ret tm t m) (fun i => K (.exit i) tm t m) x
  | .scope c => cd n c tm t m K
  | _ => false
theorem cdS_ok {ρ : Nat → Nat} {E : Env} (hE : EnvOk ρ E) {cf : Cf} (hcf : CfOk ρ E cf) {cd : Cd} (hcd : CdOk ρ E cd) : CdOk ρ E (cdS E cf cd) := by
  intro n c tm t m K Q h hQ s hs
  unfold cdS at h
  split at h
  · exact aw_skip (hQ _ _ _ _ _ h hs)
  · exact aw_label (hQ _ _ _ _ _ h hs)
  · exact aw_ret (hQ _ _ _ _ _ h hs)
  · exact aw_exit (hQ _ _ _ _ _ h hs)
  · exact regK_true hE hcf h (fun tm t m s hk hs => hQ _ _ _ _ _ hk hs) hs
  · rename_i a b
    refine aw_seq (hcd _ _ _ _ _ _ _ h (fun x tm t m s hk hs => ?_) s hs)
    cases x with
    | normal => exact then_normal (hcd _ _ _ _ _ _ _ hk hQ s hs)
    | ret => exact then_ret (hQ _ _ _ _ _ hk hs)
    | exit i => exact then_exit (hQ _ _ _ _ _ hk hs)
  · rename_i x a b
    obtain ⟨v, h1, h⟩ := evK_true hs.tm h
    rcases truK_true h with ⟨rfl, h⟩ | ⟨rfl, h⟩
    · exact aw_cond (t := true) h1 (hcd _ _ _ _ _ _ _ h hQ s hs)
    · exact aw_cond (t := false) h1 (hcd _ _ _ _ _ _ _ h hQ s hs)
  · rename_i id c
    refine aw_block (hcd _ _ _ _ _ _ _ h (fun x tm t m s hk hs => ?_) s hs)
    cases x with
    | normal => exact blk_normal (hQ _ _ _ _ _ hk hs)
    | ret => exact blk_ret (hQ _ _ _ _ _ hk hs)
    | exit i =>
      rcases ifK_true hk with ⟨h1, hk'⟩ | ⟨h1, hk'⟩
      · obtain rfl := Nat.eq_of_beq_eq_true h1
        exact blk_hit (hQ _ _ _ _ _ hk' hs)
      · exact blk_miss h1 (hQ _ _ _ _ _ hk' hs)
  · rename_i c
    refine aw_loop_once (hcd _ _ _ _ _ _ _ h (fun x tm t m s hk hs => ?_) s hs)
    cases x with
    | normal => exact then_normal (hcd _ _ _ _ _ _ _ hk hQ s hs)
    | ret => exact then_ret (hQ _ _ _ _ _ hk hs)
    | exit i => exact then_exit (hQ _ _ _ _ _ hk hs)
  · exact aw_scope (hcd _ _ _ _ _ _ _ h hQ s hs)
  · cases h
def cdK (E : Env) (k : Nat) : Cd := Nat.rec (motive := fun _ => Cd) (fun _ _ _ _ _ _ => false) (fun _ ih => cdS E (clK E ih) ih) k
theorem cdK_ok {ρ : Nat → Nat} {E : Env} (hE : EnvOk ρ E) (k : Nat) : CdOk ρ E (cdK E k) := by
  induction k with
  | zero => intro n c tm t m K Q h hQ s hs; cases h
  | succ k ih => exact cdS_ok hE (clK_ok hE ih) ih
/-- **From a run on values that are not known to what the code comes to.** -/
theorem sym_call {ρ : Nat → Nat} {E : Env} (hE : EnvOk ρ E) (k : Nat) {f : FuncId} {args : List SV} {t : HT} {m : Nat} {K : KV} {R : Value → Heap → Prop} (h : clK E (cdK E k) f args t m K = true) (hR : ∀ v t' m', K v t' m' = true → R (v.inst ρ) (instH ρ t' m')) :
    ACall E.P E.T f ⟨instL ρ args⟩ (instH ρ t m) R := clK_ok hE (cdK_ok hE k) _ _ _ _ _ _ h hR
end
end Go.Ev
