/- Code that is put together once: what the kernel works out of a text before it runs. -/
import Derived.Test.YthmcpmdohmfeiaaGreatDoorEvWl
namespace Go.Ev
open Go
set_option linter.unusedVariables false
set_option linter.unusedSimpArgs false
set_option linter.constructorNameAsVariable false
noncomputable section
abbrev OpF := Cf → Tm → HT → Nat → KV → Bool
abbrev RegF := Cf → Tm → HT → Nat → KS → Bool
abbrev CX := Cf → Tm → HT → Nat → KX → Bool
def BxP {α : Type} (P : α → Prop) (b : Bx α) : Prop := ∃ f, b = .mk f ∧ P f
theorem BxP.rec_ {α β : Type} {P : α → Prop} {Q : β → Prop} {b : Bx α} {F : α → Bx β} (h : BxP P b) (hF : ∀ f, P f → BxP Q (F f)) : BxP Q (Bx.rec (motive := fun _ => Bx β) F b) := by
  obtain ⟨f, rfl, hf⟩ := h
  exact hF f hf
/-! Operands -/
abbrev Rd := Tm → (SV → Bool) → Bool
def cOK {β : Type} (d : Bx β) (x : Operand) (F : Rd → Bx β) : Bx β := Operand.rec (motive := fun _ => Bx β)
  (fun i => Bool.rec (motive := fun _ => Bx β) d (Bx.rec (motive := fun _ => Bx β) F (rdG i 3)) (Nat.ble (Nat.succ i) 512))
  (fun v => Option.rec (motive := fun _ => Bx β) d (fun s => F fun _ K => K s) (cv v)) (fun _ => d) (fun f => F fun _ K => K (.fn f [] [])) x
theorem cOK_p {β : Type} {P : β → Prop} {d : Bx β} (hd : BxP P d) {x : Operand} {F : Rd → Bx β} (hF : ∀ g : Rd, (∀ tm K, evK x tm K = g tm K) → BxP P (F g)) : BxP P (cOK d x F) := by
  cases x with
  | tmp i =>
    unfold cOK
    obtain ⟨f, hf, _⟩ := rdG_ok i 3
    cases hb : Nat.ble (Nat.succ i) 512
    · simp only [hb]; exact hd
    · simp only [hb, hf]
      refine hF _ fun tm K => ?_
      show ifK (Nat.ble (Nat.succ i) 512) (Bx.rec (motive := fun _ => Bool) (fun g => g tm K) (rdG i 3)) false = _
      rw [hb, hf]; rfl
  | const v =>
    unfold cOK
    cases hv : cv v with
    | none => simp only [hv]; exact hd
    | some s =>
      simp only [hv]
      refine hF _ fun tm K => ?_
      show bnd (cv v) K = _
      rw [hv]; rfl
  | global g => exact hd
  | func f => exact hF _ fun tm K => rfl
abbrev Rds := Tm → (List SV → Bool) → Bool
def cAs {β : Type} (d : Bx β) (l : List Operand) : (Rds → Bx β) → Bx β := List.rec (motive := fun _ => (Rds → Bx β) → Bx β) (fun F => F fun _ K => K []) (fun x _ ih F => cOK d x fun g => ih fun h => F fun tm K => g tm fun v => h tm fun l => K (v :: l)) l
theorem cAs_p {β : Type} {P : β → Prop} {d : Bx β} (hd : BxP P d) : ∀ {l : List Operand} {F : Rds → Bx β}, (∀ g : Rds, (∀ tm K, evsK l tm K = g tm K) → BxP P (F g)) → BxP P (cAs d l F) := by
  intro l
  induction l with
  | nil => intro F hF; exact hF _ fun tm K => rfl
  | cons x l ih =>
    intro F hF
    show BxP P (cOK d x fun g => cAs d l fun h => F fun tm K => g tm fun v => h tm fun l => K (v :: l))
    refine cOK_p hd fun g hg => ih fun h hh => hF _ fun tm K => ?_
    show evK x tm (fun v => evsK l tm fun l => K (v :: l)) = _
    rw [hg]
    exact congrArg (g tm) (funext fun v => hh tm _)
abbrev Rps := Tm → (List (Nat × SV) → Bool) → Bool
def cPs {β : Type} (d : Bx β) (l : List (Nat × Operand)) : (Rps → Bx β) → Bx β := List.rec (motive := fun _ => (Rps → Bx β) → Bx β) (fun F => F fun _ K => K []) (fun x _ ih F => cOK d x.2 fun g => ih fun h => F fun tm K => g tm fun v => h tm fun l => K ((x.1, v) :: l)) l
theorem cPs_p {β : Type} {P : β → Prop} {d : Bx β} (hd : BxP P d) : ∀ {l : List (Nat × Operand)} {F : Rps → Bx β}, (∀ g : Rps, (∀ tm K, evpK l tm K = g tm K) → BxP P (F g)) → BxP P (cPs d l F) := by
  intro l
  induction l with
  | nil => intro F hF; exact hF _ fun tm K => rfl
  | cons x l ih =>
    intro F hF
    show BxP P (cOK d x.2 fun g => cPs d l fun h => F fun tm K => g tm fun v => h tm fun l => K ((x.1, v) :: l))
    refine cOK_p hd fun g hg => ih fun h hh => hF _ fun tm K => ?_
    show evK x.2 tm (fun v => evpK l tm fun l => K ((x.1, v) :: l)) = _
    rw [hg]
    exact congrArg (g tm) (funext fun v => hh tm _)
abbrev Rdo := Tm → (Option SV → Bool) → Bool
def cOp? {β : Type} (d : Bx β) (x : Option Operand) (F : Rdo → Bx β) : Bx β := Option.rec (motive := fun _ => Bx β) (F fun _ K => K none) (fun x => cOK d x fun g => F fun tm K => g tm fun v => K (some v)) x
theorem cOp?_p {β : Type} {P : β → Prop} {d : Bx β} (hd : BxP P d) {x : Option Operand} {F : Rdo → Bx β} (hF : ∀ g : Rdo, (∀ tm K, evoK x tm K = g tm K) → BxP P (F g)) : BxP P (cOp? d x F) := by
  cases x with
  | none => exact hF _ fun tm K => rfl
  | some x =>
    show BxP P (cOK d x fun g => F fun tm K => g tm fun v => K (some v))
    refine cOK_p hd fun g hg => hF _ fun tm K => ?_
    show evK x tm (fun v => K (some v)) = _
    rw [hg]
/-! Operations -/
/-- What an operation comes to: a value, or a call. -/
def OpSem (ρ : Nat → Nat) (E : Env) (o : Oper) (tr : Tr Value) (t : HT) (m : Nat) (K : KV) : Prop :=
  OpV ρ E tr o t m K ∨ ∃ g a, aop E.P E.T tr o (instH ρ t m) = some (.enter g a, instH ρ t m) ∧ ∀ R : Value → Heap → Prop, (∀ v t' m', K v t' m' = true → R (v.inst ρ) (instH ρ t' m')) → ACall E.P E.T g a (instH ρ t m) R
def OpOk (ρ : Nat → Nat) (E : Env) (o : Oper) (f : OpF) : Prop := ∀ cf, CfOk ρ E cf → ∀ tm tr, TRel ρ tm tr → ∀ t m K, f cf tm t m K = true → OpSem ρ E o tr t m K
def dOp : Bx OpF := .mk fun _ _ _ _ _ => false
theorem dOp_ok (ρ : Nat → Nat) (E : Env) (o : Oper) : BxP (OpOk ρ E o) dOp := ⟨_, rfl, fun cf _ tm tr _ t m K h => by cases h⟩
def cCall (E : Env) (f : Operand) (args : List Operand) : Bx OpF := match f with
  | .func g => Bool.rec (motive := fun _ => Bx OpF) dOp (cAs dOp args fun ga => .mk fun cf tm t m K => ga tm fun l => cf g l t m K) (E.T.can g).isSome
  | f => cOK dOp f fun gf => cAs dOp args fun ga => .mk fun cf tm t m K => gf tm fun v => fnK v fun g fs cs => ga tm fun l => catK fs l fun l => catK l cs fun l => ifK (E.T.can g).isSome (cf g l t m K) false
theorem cCall_ok {ρ : Nat → Nat} {E : Env} {o : Oper} {f : Operand} {args : List Operand} (hv : isVal o.op = some (f, args)) : BxP (OpOk ρ E o) (cCall E f args) := by
  unfold cCall
  split
  · rename_i g
    cases hg : (E.T.can g).isSome
    · exact dOp_ok ρ E o
    · refine cAs_p (dOp_ok ρ E o) fun ga hga => ⟨_, rfl, fun cf hcf tm tr hT t m K h => .inr (callK_true hcf hT hv (t := t) (m := m) (K := K) ?_)⟩
      show (evsK args tm fun l => catK [] l fun l => catK l [] fun l => ifK (E.T.can g).isSome (cf g l t m K) false) = true
      rw [hga, show (fun l => catK [] l fun l => catK l [] fun l => ifK (E.T.can g).isSome (cf g l t m K) false) = fun l => cf g l t m K from funext fun l => by rw [catK_eq, catK_eq, hg, List.append_nil, List.nil_append]; rfl]
      exact h
  · refine cOK_p (dOp_ok ρ E o) fun gf hgf => cAs_p (dOp_ok ρ E o) fun ga hga => ⟨_, rfl, fun cf hcf tm tr hT t m K h => .inr (callK_true hcf hT hv (t := t) (m := m) (K := K) ?_)⟩
    unfold callK
    rw [hgf]
    simp only [hga]
    exact h
def cOp (E : Env) (o : Oper) : Bx OpF := match o.op with
  | .move x => cOK dOp x fun g => .mk fun _ tm t m K => g tm fun v => K v t m
  | .assign x => cOK dOp x fun g => .mk fun _ tm t m K => g tm fun v => K v t m
  | .pick c a b => cOK dOp c fun gc => cOK dOp a fun ga => cOK dOp b fun gb => .mk fun _ tm t m K => gc tm fun c => ga tm fun u => gb tm fun v => pickJ c u v fun s => K s t m
  | .box e x => cOK dOp x fun g => .mk fun _ tm t m K => g tm fun v => boxK v fun c => pushK ⟨c, e, false⟩ (.p m 0) t m K
  | .build ty ps => cPs dOp ps.toList fun g => .mk fun _ tm t m K => g tm fun l => bldK E ty l fun s => K s t m
  | .buildSlice ty n ps => cPs dOp ps.toList fun g => .mk fun _ tm t m K => g tm fun l => bsJ E ty n l t m K
  | .load ty a => cOK dOp a fun g => .mk fun _ tm t m K => g tm fun v => ldK E.T ty v t fun u => K u t m
  | .store ty a x => cOK dOp a fun g => cOK dOp x fun h => .mk fun _ tm t m K => g tm fun v => h tm fun u => stK E.T ty v u t fun t => K .u t m
  | .nilCheck x => cOK dOp x fun g => .mk fun _ tm t m K => g tm fun v => nilcK v (K v t m)
  | .binOp op ty x y _ => cOK dOp x fun g => cOK dOp y fun h => .mk fun _ tm t m K => g tm fun u => h tm fun v => binJ E op ty u v fun s => K s t m
  | .unOp .not _ x => cOK dOp x fun g => .mk fun _ tm t m K => g tm fun v => notJ v fun s => K s t m
  | .convert s d x => cOK dOp x fun g => .mk fun _ tm t m K => g tm fun v => convK E.T s d v t fun u => K u t m
  | .makeSlice ty l c => cOK dOp l fun g => cOK dOp c fun h => .mk fun _ tm t m K => g tm fun u => h tm fun v => msJ E ty u v t m K
  | .slice ty x lo hi none => cOK dOp x fun g => cOp? dOp lo fun gl => cOp? dOp hi fun gh => .mk fun _ tm t m K => g tm fun v => gl tm fun l => gh tm fun r => slK E.T ty v l r fun s => K s t m
  | .fieldAddr s x f => cOK dOp x fun g => .mk fun _ tm t m K => g tm fun v => faJ E s f v fun u => K u t m
  | .field ty x f => cOK dOp x fun g => .mk fun _ tm t m K => g tm fun v => fdJ E ty f v fun u => K u t m
  | .indexAddr ty x i => cOK dOp x fun g => cOK dOp i fun h => .mk fun _ tm t m K => g tm fun u => h tm fun v => iaJ E ty u v fun s => K s t m
  | .index ty x i => cOK dOp x fun g => cOK dOp i fun h => .mk fun _ tm t m K => g tm fun u => h tm fun v => ixJ E ty u v fun s => K s t m
  | .extract x i => cOK dOp x fun g => .mk fun _ tm t m K => g tm fun v => exJ i v fun u => K u t m
  | .call c => (match c.callee with
    | .value f => cCall E f c.args.toList
    | .builtin .len => cAs dOp c.args.toList fun g => .mk fun _ tm t m K => g tm fun l => lenJ E c.argTypes.toList l t m K
    | .builtin .append => cAs dOp c.args.toList fun g => .mk fun _ tm t m K => g tm fun l => bltK E .append c.argTypes.toList l t m K
    | .builtin .copy => cAs dOp c.args.toList fun g => .mk fun _ tm t m K => g tm fun l => bltK E .copy c.argTypes.toList l t m K
    | _ => .mk fun _ tm t m K => hBltM c E tm o t m K)
  | op => .mk fun _ tm t m K => sOp op E tm o t m K
theorem hd_sem {ρ : Nat → Nat} {E : Env} {o : Oper} {h : Hd} {op : Op} (hh : HdOk ρ E op h) (ho : o.op = op) {tm : Tm} {tr : Tr Value} (hT : TRel ρ tm tr) {t : HT} {m : Nat} {K : KV} (hk : h E tm o t m K = true) : OpSem ρ E o tr t m K := .inl (hh tm tr hT o t m K ho hk)
theorem cOp_ok {ρ : Nat → Nat} {E : Env} (hE : EnvOk ρ E) (o : Oper) : BxP (OpOk ρ E o) (cOp E o) := by
  have hd := dOp_ok ρ E o
  unfold cOp
  split
  · rename_i x ho
    exact cOK_p hd fun g hg => ⟨_, rfl, fun cf hcf tm tr hT t m K h => hd_sem (hMove_ok ρ E x) ho hT (show hMove x E tm o t m K = true from by unfold hMove; rw [hg]; exact h)⟩
  · rename_i x ho
    exact cOK_p hd fun g hg => ⟨_, rfl, fun cf hcf tm tr hT t m K h => hd_sem (hAssign_ok ρ E x) ho hT (show hMove x E tm o t m K = true from by unfold hMove; rw [hg]; exact h)⟩
  · rename_i c a b ho
    exact cOK_p hd fun g hg => cOK_p hd fun g2 hg2 => cOK_p hd fun g3 hg3 => ⟨_, rfl, fun cf hcf tm tr hT t m K h => hd_sem (hPick_ok ρ E c a b) ho hT (by unfold hPick; simp only [hg, hg2, hg3]; exact h)⟩
  · rename_i e x ho
    exact cOK_p hd fun g hg => ⟨_, rfl, fun cf hcf tm tr hT t m K h => hd_sem (hBox_ok ρ E e x) ho hT (by unfold hBox; rw [hg]; exact h)⟩
  · rename_i ty ps ho
    exact cPs_p hd fun g hg => ⟨_, rfl, fun cf hcf tm tr hT t m K h => hd_sem (hBuild_ok hE ty ps) ho hT (by unfold hBuild; rw [hg]; exact h)⟩
  · rename_i ty n ps ho
    exact cPs_p hd fun g hg => ⟨_, rfl, fun cf hcf tm tr hT t m K h => hd_sem (hBuildSlice_ok hE ty n ps) ho hT (by unfold hBuildSlice; rw [hg]; exact h)⟩
  · rename_i ty a ho
    exact cOK_p hd fun g hg => ⟨_, rfl, fun cf hcf tm tr hT t m K h => hd_sem (hLoad_ok ρ E ty a) ho hT (by unfold hLoad; rw [hg]; exact h)⟩
  · rename_i ty a x ho
    exact cOK_p hd fun g hg => cOK_p hd fun g2 hg2 => ⟨_, rfl, fun cf hcf tm tr hT t m K h => hd_sem (hStore_ok ρ E ty a x) ho hT (by unfold hStore; simp only [hg, hg2]; exact h)⟩
  · rename_i x ho
    exact cOK_p hd fun g hg => ⟨_, rfl, fun cf hcf tm tr hT t m K h => hd_sem (hNil_ok ρ E x) ho hT (by unfold hNil; rw [hg]; exact h)⟩
  · rename_i op ty x y t2 ho
    exact cOK_p hd fun g hg => cOK_p hd fun g2 hg2 => ⟨_, rfl, fun cf hcf tm tr hT t m K h => hd_sem (hBin_ok hE op ty t2 x y) ho hT (by unfold hBin; simp only [hg, hg2]; exact h)⟩
  · rename_i ty x ho
    exact cOK_p hd fun g hg => ⟨_, rfl, fun cf hcf tm tr hT t m K h => hd_sem (hNot_ok ρ E ty x) ho hT (by unfold hNot; rw [hg]; exact h)⟩
  · rename_i s d x ho
    exact cOK_p hd fun g hg => ⟨_, rfl, fun cf hcf tm tr hT t m K h => hd_sem (hConvert_ok ρ E s d x) ho hT (by unfold hConvert; rw [hg]; exact h)⟩
  · rename_i ty l c ho
    exact cOK_p hd fun g hg => cOK_p hd fun g2 hg2 => ⟨_, rfl, fun cf hcf tm tr hT t m K h => hd_sem (hMakeSlice_ok hE ty l c) ho hT (by unfold hMakeSlice; simp only [hg, hg2]; exact h)⟩
  · rename_i ty x lo hi ho
    exact cOK_p hd fun g hg => cOp?_p hd fun g2 hg2 => cOp?_p hd fun g3 hg3 => ⟨_, rfl, fun cf hcf tm tr hT t m K h => hd_sem (hSlice_ok ρ E ty x lo hi none) ho hT (by unfold hSlice; simp only [hg, hg2, hg3]; exact h)⟩
  · rename_i s x f ho
    exact cOK_p hd fun g hg => ⟨_, rfl, fun cf hcf tm tr hT t m K h => hd_sem (hFieldAddr_ok ρ E s x f) ho hT (by unfold hFieldAddr; rw [hg]; exact h)⟩
  · rename_i ty x f ho
    exact cOK_p hd fun g hg => ⟨_, rfl, fun cf hcf tm tr hT t m K h => hd_sem (hField_ok ρ E ty x f) ho hT (by unfold hField; rw [hg]; exact h)⟩
  · rename_i ty x i ho
    exact cOK_p hd fun g hg => cOK_p hd fun g2 hg2 => ⟨_, rfl, fun cf hcf tm tr hT t m K h => hd_sem (hIndexAddr_ok ρ E ty x i) ho hT (by unfold hIndexAddr; simp only [hg, hg2]; exact h)⟩
  · rename_i ty x i ho
    exact cOK_p hd fun g hg => cOK_p hd fun g2 hg2 => ⟨_, rfl, fun cf hcf tm tr hT t m K h => hd_sem (hIndex_ok ρ E ty x i) ho hT (by unfold hIndex; simp only [hg, hg2]; exact h)⟩
  · rename_i x i ho
    exact cOK_p hd fun g hg => ⟨_, rfl, fun cf hcf tm tr hT t m K h => hd_sem (hExtract_ok ρ E x i) ho hT (by unfold hExtract; rw [hg]; exact h)⟩
  · rename_i c ho
    split
    · rename_i f hf
      refine cCall_ok ?_
      rw [ho]; unfold isVal; simp only [hf]
    · rename_i hb
      exact cAs_p hd fun g hg => ⟨_, rfl, fun cf hcf tm tr hT t m K h => hd_sem (hBltM_ok hE c) ho hT (by unfold hBltM; simp only [hb]; unfold hLen; rw [hg]; exact h)⟩
    · rename_i hb
      exact cAs_p hd fun g hg => ⟨_, rfl, fun cf hcf tm tr hT t m K h => hd_sem (hBltM_ok hE c) ho hT (by unfold hBltM; simp only [hb]; unfold hBlt; simp only [hb]; rw [hg]; exact h)⟩
    · rename_i hb
      exact cAs_p hd fun g hg => ⟨_, rfl, fun cf hcf tm tr hT t m K h => hd_sem (hBltM_ok hE c) ho hT (by unfold hBltM; simp only [hb]; unfold hBlt; simp only [hb]; rw [hg]; exact h)⟩
    · exact ⟨_, rfl, fun cf hcf tm tr hT t m K h => hd_sem (hBltM_ok hE c) ho hT h⟩
  · exact ⟨_, rfl, fun cf hcf tm tr hT t m K h => .inl (sOp_ok hE _ tm tr hT o t m K rfl h)⟩
/-! Steps -/
def dR : Bx RegF := .mk fun _ _ _ _ _ => false
def RegOk (ρ : Nat → Nat) (E : Env) (n : Nat) (ops : Array Oper) (l : List Oper) (f : RegF) : Prop := ∀ cf, CfOk ρ E cf → ∀ tm t m (K : KS) (Q : St → Prop), f cf tm t m K = true → (∀ tm t m s, K tm t m = true → SRel ρ tm t m s → Q s) → ∀ s, SRel ρ tm t m s → AOps E.P E.T n ops l Q s
def StOk (ρ : Nat → Nat) (E : Env) (n : Nat) (ops : Array Oper) (o : Oper) (f : RegF) : Prop := ∀ cf, CfOk ρ E cf → ∀ tm t m (K : KS) (Q : St → Prop), f cf tm t m K = true → (∀ tm t m s, K tm t m = true → SRel ρ tm t m s → Q s) → ∀ s, SRel ρ tm t m s → AStep E.P E.T n ops o Q s
abbrev PutF := SV → Tm → (Tm → Bool) → Bool
def cDst {β : Type} (d : Bx β) (n : Nat) (dst : Option Tmp) (F : PutF → Bx β) : Bx β := Option.rec (motive := fun _ => Bx β) (F fun _ tm K => K tm) (fun i => Bool.rec (motive := fun _ => Bx β) d (Bool.rec (motive := fun _ => Bx β) d (Bx.rec (motive := fun _ => Bx β) F (wrG i 3)) (Nat.ble (Nat.succ i) 512)) (Nat.blt i n)) dst
theorem cDst_p {β : Type} {P : β → Prop} {d : Bx β} (hd : BxP P d) {n : Nat} {dst : Option Tmp} {F : PutF → Bx β} (hF : ∀ p : PutF, (∀ v tm t m (K : KS), finK n dst v tm t m K = p v tm fun tm => K tm t m) → BxP P (F p)) : BxP P (cDst d n dst F) := by
  cases dst with
  | none => exact hF _ fun v tm t m K => rfl
  | some i =>
    unfold cDst
    cases h1 : Nat.blt i n
    · simp only [h1]; exact hd
    · cases h2 : Nat.ble (Nat.succ i) 512
      · simp only [h1, h2]; exact hd
      · obtain ⟨f, hf, _⟩ := wrG_ok i 3
        simp only [h1, h2, hf]
        refine hF _ fun v tm t m K => ?_
        show ifK (Nat.blt i n) (ifK (Nat.ble (Nat.succ i) 512) (Bx.rec (motive := fun _ => Bool) (fun g => g v tm fun tm => K tm t m) (wrG i 3)) false) false = _
        rw [h1, h2, hf]; rfl
def cFlag {β : Type} (d : Bx β) (ops : Array Oper) (i : Nat) (F : Rd → Bx β) : Bx β := Option.rec (motive := fun _ => Bx β) d (fun j => Bool.rec (motive := fun _ => Bx β) d (Bx.rec (motive := fun _ => Bx β) F (rdG j 3)) (Nat.ble (Nat.succ j) 512)) ((ops[i]?).bind (·.dst))
theorem cFlag_p {β : Type} {P : β → Prop} {d : Bx β} (hd : BxP P d) {ops : Array Oper} {i : Nat} {F : Rd → Bx β} (hF : ∀ g : Rd, (∀ tm K, (bnd ((ops[i]?).bind (·.dst)) fun d => gT d tm K) = g tm K) → BxP P (F g)) : BxP P (cFlag d ops i F) := by
  unfold cFlag
  cases hj : (ops[i]?).bind (·.dst) with
  | none => simp only; exact hd
  | some j =>
    cases hb : Nat.ble (Nat.succ j) 512
    · simp only [hb]; exact hd
    · obtain ⟨f, hf, _⟩ := rdG_ok j 3
      simp only [hb, hf]
      refine hF _ fun tm K => ?_
      rw [hj]
      show ifK (Nat.ble (Nat.succ j) 512) (Bx.rec (motive := fun _ => Bool) (fun g => g tm K) (rdG j 3)) false = _
      rw [hb, hf]; rfl
def cStep (E : Env) (n : Nat) (ops : Array Oper) (o : Oper) : Bx RegF := Bx.rec (motive := fun _ => Bx RegF) (fun f => cDst dR n o.dst fun p => Option.rec (motive := fun _ => Bx RegF)
  (.mk fun cf tm t m K => f cf tm t m fun v t m => p v tm fun tm => K tm t m)
  (fun q => Prod.rec (motive := fun _ => Bx RegF) (fun i w => cFlag dR ops i fun g => .mk fun cf tm t m K => g tm fun x => guardJ x w (fun J => f cf tm t m J) (fun v t m => p v tm fun tm => K tm t m) t m) q) o.guard) (cOp E o)
theorem dR_st (ρ : Nat → Nat) (E : Env) (n : Nat) (ops : Array Oper) (o : Oper) : BxP (StOk ρ E n ops o) dR := ⟨_, rfl, fun cf _ tm t m K Q h => by cases h⟩
theorem astep_of {ρ : Nat → Nat} {E : Env} {n : Nat} {ops : Array Oper} {o : Oper} {tm : Tm} {tr : Tr Value} (hT : TRel ρ tm tr) {t : HT} {m : Nat} {K : KS} {Q : St → Prop} (hQ : ∀ tm t m s, K tm t m = true → SRel ρ tm t m s → Q s)
    (h : (awanted ops tr o = true ∧ OpSem ρ E o tr t m fun v t m => finK n o.dst v tm t m K) ∨ (awanted ops tr o = false ∧ finK n o.dst .u tm t m K = true)) : AStep E.P E.T n ops o Q ⟨tr, instH ρ t m⟩ := by
  unfold AStep
  rcases h with ⟨h1, h⟩ | ⟨h1, h⟩
  · simp only [h1, cond_true]
    rcases h with ⟨v, t', n', h2, h⟩ | ⟨g, a, h2, h3⟩
    · rcases h2 with h2 | ⟨rfl, h2⟩
      · rw [h2]; exact finK_true hT h hQ
      · rw [h2]; exact finK_true hT (v := .u) h hQ
    · rw [h2]
      exact h3 _ fun v t' m' hk => finK_true hT hk hQ
  · simp only [h1, cond_false]
    exact finK_true hT (v := .u) h hQ
theorem cStep_ok {ρ : Nat → Nat} {E : Env} (hE : EnvOk ρ E) (n : Nat) (ops : Array Oper) (o : Oper) : BxP (StOk ρ E n ops o) (cStep E n ops o) := by
  obtain ⟨f, hb, hf⟩ := cOp_ok hE o
  unfold cStep
  rw [hb]
  refine cDst_p (dR_st ρ E n ops o) fun p hp => ?_
  cases hg : o.guard with
  | none =>
    refine ⟨_, rfl, fun cf hcf tm t m K Q h hQ s hs => ?_⟩
    obtain ⟨tr, H⟩ := s
    obtain ⟨hT, hH⟩ := hs
    simp only at hT hH
    subst hH
    refine astep_of hT hQ (.inl ⟨by unfold awanted; rw [hg], ?_⟩)
    refine hf cf hcf tm tr hT t m _ ?_
    simp only [hp]
    exact h
  | some q =>
    obtain ⟨i, w⟩ := q
    refine cFlag_p (dR_st ρ E n ops o) fun g hg2 => ⟨_, rfl, fun cf hcf tm t m K Q h hQ s hs => ?_⟩
    obtain ⟨tr, H⟩ := s
    obtain ⟨hT, hH⟩ := hs
    simp only at hT hH
    subst hH
    have hw := wantJ_true (ops := ops) (tm := tm) hT (o := o) (F := fun J => f cf tm t m J) (J := fun v t m => p v tm fun tm => K tm t m) (t := t) (m := m) (by
      unfold wantJ
      rw [hg]
      show (bnd ((ops[i]?).bind (·.dst)) fun d => gT d tm fun v => guardJ v w _ _ t m) = true
      rw [hg2]
      exact h)
    refine astep_of hT hQ ?_
    rcases hw with ⟨h1, h2⟩ | ⟨h1, h2⟩
    · exact .inl ⟨h1, hf cf hcf tm tr hT t m _ (by simp only [hp]; exact h2)⟩
    · exact .inr ⟨h1, by rw [hp]; exact h2⟩
def cOps (E : Env) (n : Nat) (ops : Array Oper) (l : List Oper) : Bx RegF := List.rec (motive := fun _ => Bx RegF) (.mk fun _ tm t m K => K tm t m) (fun o _ ih => Bx.rec (motive := fun _ => Bx RegF) (fun f => Bx.rec (motive := fun _ => Bx RegF) (fun g => .mk fun cf tm t m K => f cf tm t m fun tm t m => g cf tm t m K) ih) (cStep E n ops o)) l
theorem cOps_ok {ρ : Nat → Nat} {E : Env} (hE : EnvOk ρ E) (n : Nat) (ops : Array Oper) : ∀ l : List Oper, BxP (RegOk ρ E n ops l) (cOps E n ops l) := by
  intro l
  induction l with
  | nil => exact ⟨_, rfl, fun cf _ tm t m K Q h hQ s hs => aops_nil (hQ _ _ _ _ h hs)⟩
  | cons o l ih =>
    obtain ⟨f, hb, hf⟩ := cStep_ok hE n ops o
    obtain ⟨g, hc, hg⟩ := ih
    have e : cOps E n ops (o :: l) = .mk fun cf tm t m K => f cf tm t m fun tm t m => g cf tm t m K := by
      show (Bx.rec (motive := fun _ => Bx RegF) (fun f => Bx.rec (motive := fun _ => Bx RegF) (fun g => .mk fun cf tm t m K => f cf tm t m fun tm t m => g cf tm t m K) (cOps E n ops l)) (cStep E n ops o)) = _
      rw [hb, hc]
    refine ⟨_, e, fun cf hcf tm t m K Q h hQ s hs => ?_⟩
    exact aops_cons (hf cf hcf tm t m _ _ h (fun tm t m s hk hs => hg cf hcf tm t m K Q hk hQ s hs) s hs)
/-- A region; where its loads may stand elsewhere it is run as it lies. -/
def cReg (E : Env) (n : Nat) (ops : Array Oper) (draw : Bool) : Bx RegF := Bool.rec (motive := fun _ => Bx RegF) (cOps E n ops ops.toList)
  (List.rec (motive := fun _ => Bx RegF) (cOps E n ops ops.toList) (fun _ _ _ => .mk fun cf tm t m K => regK E n cf ops true tm t m K) (loose E.T ops)) draw
def RgOk (ρ : Nat → Nat) (E : Env) (n : Nat) (ops : Array Oper) (draw : Bool) (f : RegF) : Prop := ∀ cf, CfOk ρ E cf → ∀ id tm t m (K : KS) (Q : Xt → St → Prop), f cf tm t m K = true → (∀ tm t m s, K tm t m = true → SRel ρ tm t m s → Q .normal s) → ∀ s, SRel ρ tm t m s → Aw E.P E.T n (.region id ops draw) Q s
theorem cReg_ok {ρ : Nat → Nat} {E : Env} (hE : EnvOk ρ E) (n : Nat) (ops : Array Oper) (draw : Bool) : BxP (RgOk ρ E n ops draw) (cReg E n ops draw) := by
  cases draw
  · obtain ⟨f, h1, h2⟩ := cOps_ok hE n ops ops.toList
    exact ⟨f, h1, fun cf hcf id tm t m K Q h hQ s hs => aw_region (h2 cf hcf tm t m K _ h hQ s hs)⟩
  · unfold cReg
    cases hl : loose E.T ops with
    | nil =>
      simp only [hl]
      obtain ⟨f, h1, h2⟩ := cOps_ok hE n ops ops.toList
      refine ⟨f, h1, fun cf hcf id tm t m K Q h hQ s hs => ?_⟩
      obtain ⟨l⟩ := ops
      exact aw_draw0 hl (h2 cf hcf tm t m K _ h hQ s hs)
    | cons p ps =>
      simp only [hl]
      exact ⟨_, rfl, fun cf hcf id tm t m K Q h hQ s hs => regK_true hE hcf h hQ hs⟩
/-! Code -/
def dC : Bx CX := .mk fun _ _ _ _ _ => false
/-- The code in a box is run. -/
def goC (b : Bx CX) : CX := fun cf tm t m K => Bx.rec (motive := fun _ => Bool) (fun g => g cf tm t m K) b
def loopK (F : Tm → HT → Nat → KX → Bool) (k : Nat) : Tm → HT → Nat → KX → Bool := Nat.rec (motive := fun _ => Tm → HT → Nat → KX → Bool) (fun _ _ _ _ => false) (fun _ ih tm t m K => F tm t m fun x tm t m => Xt.rec (motive := fun _ => Bool) (ih tm t m K) (K .ret tm t m) (fun i => K (.exit i) tm t m) x) k
def cCode (E : Env) (n : Nat) (c : Code) : Bx CX := Code.rec (motive := fun _ => Bx CX)
  (.mk fun _ tm t m K => K .normal tm t m)
  (fun _ ops draw => Bx.rec (motive := fun _ => Bx CX) (fun f => .mk fun cf tm t m K => f cf tm t m fun tm t m => K .normal tm t m) (cReg E n ops draw))
  (fun _ _ a b => Bx.rec (motive := fun _ => Bx CX) (fun f => .mk fun cf tm t m K => f cf tm t m fun x tm t m => Xt.rec (motive := fun _ => Bool) (goC b cf tm t m K) (K .ret tm t m) (fun i => K (.exit i) tm t m) x) a)
  (fun x _ _ a b => cOK dC x fun g => .mk fun cf tm t m K => g tm fun v => truK v (goC a cf tm t m K) (goC b cf tm t m K))
  (fun id _ a => .mk fun cf tm t m K => goC a cf tm t m fun x tm t m => Xt.rec (motive := fun _ => Bool) (K .normal tm t m) (K .ret tm t m) (fun i => ifK (Nat.beq i id) (K .normal tm t m) (K (.exit i) tm t m)) x)
  (fun _ a => .mk fun cf tm t m K => loopK (fun tm t m K => goC a cf tm t m K) 1000000 tm t m K)
  (fun _ _ _ _ _ _ => dC)
  (fun i => .mk fun _ tm t m K => K (.exit i) tm t m)
  (fun _ a => a)
  (fun _ => .mk fun _ tm t m K => K .normal tm t m)
  (fun _ => dC)
  (.mk fun _ tm t m K => K .ret tm t m)
  (fun _ => dC) c
def COk (ρ : Nat → Nat) (E : Env) (n : Nat) (c : Code) (f : CX) : Prop := ∀ cf, CfOk ρ E cf → ∀ tm t m (K : KX) (Q : Xt → St → Prop), f cf tm t m K = true → (∀ x tm t m s, K x tm t m = true → SRel ρ tm t m s → Q x s) → ∀ s, SRel ρ tm t m s → Aw E.P E.T n c Q s
theorem goC_ok {ρ : Nat → Nat} {E : Env} {n : Nat} {c : Code} {b : Bx CX} (h : BxP (COk ρ E n c) b) : COk ρ E n c (goC b) := by
  obtain ⟨f, rfl, hf⟩ := h
  exact hf
theorem dC_ok (ρ : Nat → Nat) (E : Env) (n : Nat) (c : Code) : BxP (COk ρ E n c) dC := ⟨_, rfl, fun cf _ tm t m K Q h => by cases h⟩
theorem loopK_ok {ρ : Nat → Nat} {E : Env} {n : Nat} {c : Code} {F : Tm → HT → Nat → KX → Bool} (hF : ∀ tm t m (K : KX) (Q : Xt → St → Prop), F tm t m K = true → (∀ x tm t m s, K x tm t m = true → SRel ρ tm t m s → Q x s) → ∀ s, SRel ρ tm t m s → Aw E.P E.T n c Q s) :
    ∀ (k : Nat) tm t m (K : KX) (Q : Xt → St → Prop), loopK F k tm t m K = true → (∀ x tm t m s, K x tm t m = true → SRel ρ tm t m s → Q x s) → ∀ s, SRel ρ tm t m s → Aw E.P E.T n (.loop c) Q s := by
  intro k
  induction k with
  | zero => intro tm t m K Q h; cases h
  | succ k ih =>
    intro tm t m K Q h hQ s hs
    refine aw_loop_once (hF tm t m _ _ h (fun x tm t m s hk hs => ?_) s hs)
    cases x with
    | normal => exact then_normal (ih tm t m K Q hk hQ s hs)
    | ret => exact then_ret (hQ _ _ _ _ _ hk hs)
    | exit i => exact then_exit (hQ _ _ _ _ _ hk hs)
theorem cCode_ok {ρ : Nat → Nat} {E : Env} (hE : EnvOk ρ E) (n : Nat) : ∀ c : Code, BxP (COk ρ E n c) (cCode E n c) := by
  intro c
  induction c with
  | skip => exact ⟨_, rfl, fun cf _ tm t m K Q h hQ s hs => aw_skip (hQ _ _ _ _ _ h hs)⟩
  | region id ops draw =>
    obtain ⟨f, hb, hf⟩ := cReg_ok hE n ops draw
    have e : cCode E n (.region id ops draw) = .mk fun cf tm t m K => f cf tm t m fun tm t m => K .normal tm t m := by
      show (Bx.rec (motive := fun _ => Bx CX) (fun f => .mk fun cf tm t m K => f cf tm t m fun tm t m => K .normal tm t m) (cReg E n ops draw)) = _
      rw [hb]
    refine ⟨_, e, fun cf hcf tm t m K Q h hQ s hs => ?_⟩
    exact hf cf hcf id tm t m _ Q h (fun tm t m s hk hs => hQ _ _ _ _ _ hk hs) s hs
  | seq a b iha ihb =>
    obtain ⟨f, hb, hf⟩ := iha
    have e : cCode E n (.seq a b) = .mk fun cf tm t m K => f cf tm t m fun x tm t m => Xt.rec (motive := fun _ => Bool) (goC (cCode E n b) cf tm t m K) (K .ret tm t m) (fun i => K (.exit i) tm t m) x := by
      show (Bx.rec (motive := fun _ => Bx CX) (fun f => .mk fun cf tm t m K => f cf tm t m fun x tm t m => Xt.rec (motive := fun _ => Bool) (goC (cCode E n b) cf tm t m K) (K .ret tm t m) (fun i => K (.exit i) tm t m) x) (cCode E n a)) = _
      rw [hb]
    refine ⟨_, e, fun cf hcf tm t m K Q h hQ s hs => ?_⟩
    refine aw_seq (hf cf hcf tm t m _ _ h (fun x tm t m s hk hs => ?_) s hs)
    cases x with
    | normal => exact then_normal (goC_ok ihb cf hcf tm t m K Q hk hQ s hs)
    | ret => exact then_ret (hQ _ _ _ _ _ hk hs)
    | exit i => exact then_exit (hQ _ _ _ _ _ hk hs)
  | cond x a b iha ihb =>
    show BxP _ (cOK dC x fun g => .mk fun cf tm t m K => g tm fun v => truK v (goC (cCode E n a) cf tm t m K) (goC (cCode E n b) cf tm t m K))
    refine cOK_p (dC_ok ρ E n _) fun g hg => ⟨_, rfl, fun cf hcf tm t m K Q h hQ s hs => ?_⟩
    obtain ⟨v, h1, h⟩ := evK_true hs.tm (K := fun v => truK v (goC (cCode E n a) cf tm t m K) (goC (cCode E n b) cf tm t m K)) (x := x) (by rw [hg]; exact h)
    rcases truK_true h with ⟨rfl, h⟩ | ⟨rfl, h⟩
    · exact aw_cond (t := true) h1 (goC_ok iha cf hcf tm t m K Q h hQ s hs)
    · exact aw_cond (t := false) h1 (goC_ok ihb cf hcf tm t m K Q h hQ s hs)
  | block id a iha =>
    refine ⟨_, rfl, fun cf hcf tm t m K Q h hQ s hs => ?_⟩
    refine aw_block (goC_ok iha cf hcf tm t m _ _ h (fun x tm t m s hk hs => ?_) s hs)
    cases x with
    | normal => exact blk_normal (hQ _ _ _ _ _ hk hs)
    | ret => exact blk_ret (hQ _ _ _ _ _ hk hs)
    | exit i =>
      rcases ifK_true hk with ⟨h1, hk'⟩ | ⟨h1, hk'⟩
      · obtain rfl := Nat.eq_of_beq_eq_true h1
        exact blk_hit (hQ _ _ _ _ _ hk' hs)
      · exact blk_miss h1 (hQ _ _ _ _ _ hk' hs)
  | loop a iha =>
    exact ⟨_, rfl, fun cf hcf tm t m K Q h hQ s hs => loopK_ok (fun tm t m K Q h hQ s hs => goC_ok iha cf hcf tm t m K Q h hQ s hs) _ tm t m K Q h hQ s hs⟩
  | rangeFunc f ps a b _ _ => exact dC_ok ρ E n _
  | exit i => exact ⟨_, rfl, fun cf _ tm t m K Q h hQ s hs => aw_exit (hQ _ _ _ _ _ h hs)⟩
  | scope a iha =>
    obtain ⟨f, h1, h2⟩ := iha
    exact ⟨f, h1, fun cf hcf tm t m K Q h hQ s hs => aw_scope (h2 cf hcf tm t m K Q h hQ s hs)⟩
  | label l => exact ⟨_, rfl, fun cf _ tm t m K Q h hQ s hs => aw_label (hQ _ _ _ _ _ h hs)⟩
  | goto l => exact dC_ok ρ E n _
  | ret => exact ⟨_, rfl, fun cf _ tm t m K Q h hQ s hs => aw_ret (hQ _ _ _ _ _ h hs)⟩
  | refuse w => exact dC_ok ρ E n _
/-! Calls -/
abbrev FnF := Cf → List SV → HT → Nat → KV → Bool
def dF : Bx FnF := .mk fun _ _ _ _ _ => false
/-- The slots at a call's beginning. -/
def argL (n : Nat) (l : List SV) (K : Tm → Bool) : Bool := cntK l 0 fun k => ifK (Nat.ble k n) (initK l 0 e3 K) false
def sm (a0 a1 a2 a3 a4 a5 a6 a7 : SV) (K : Tm → Bool) : Bool := K fun F => F (fun F => F (fun F => F a0 a1 a2 a3 a4 a5 a6 a7) e1 e1 e1 e1 e1 e1 e1) e2 e2 e2 e2 e2 e2 e2
theorem sm_eq (a0 a1 a2 a3 a4 a5 a6 a7 : SV) (K : Tm → Bool) : sm a0 a1 a2 a3 a4 a5 a6 a7 K = K (enc 3 (s3d (.mk a0 a1 a2 a3 a4 a5 a6 a7))) := rfl
def argK (n : Nat) (l : List SV) (K : Tm → Bool) : Bool := List.rec (motive := fun _ => Bool) (K e3) (fun a0 r _ => List.rec (motive := fun _ => Bool) (ifK (Nat.ble 1 n) (sm a0 .u .u .u .u .u .u .u K) false) (fun a1 r _ => List.rec (motive := fun _ => Bool) (ifK (Nat.ble 2 n) (sm a0 a1 .u .u .u .u .u .u K) false) (fun a2 r _ => List.rec (motive := fun _ => Bool) (ifK (Nat.ble 3 n) (sm a0 a1 a2 .u .u .u .u .u K) false) (fun a3 r _ => List.rec (motive := fun _ => Bool) (ifK (Nat.ble 4 n) (sm a0 a1 a2 a3 .u .u .u .u K) false) (fun a4 r _ => List.rec (motive := fun _ => Bool) (ifK (Nat.ble 5 n) (sm a0 a1 a2 a3 a4 .u .u .u K) false) (fun a5 r _ => List.rec (motive := fun _ => Bool) (ifK (Nat.ble 6 n) (sm a0 a1 a2 a3 a4 a5 .u .u K) false) (fun a6 r _ => List.rec (motive := fun _ => Bool) (ifK (Nat.ble 7 n) (sm a0 a1 a2 a3 a4 a5 a6 .u K) false) (fun a7 r _ => List.rec (motive := fun _ => Bool) (ifK (Nat.ble 8 n) (sm a0 a1 a2 a3 a4 a5 a6 a7 K) false) (fun _ _ _ => argL n l K) r) r) r) r) r) r) r) r) l
theorem s3_at (a : N8 SV) (i : Nat) (hi : i < 512) : nAt i 3 (s3d a) = if i < 8 then (nAt i 1 a : SV) else SV.u := by
  have hu : ∀ k j, nAt j k (nRep SV.u k) = SV.u := fun k j => nAt_rep j SV.u k
  rw [nAt_s, nAt_s]
  have e2 : (8 : Nat) ^ 2 = 64 := rfl
  have e1 : (8 : Nat) ^ 1 = 8 := rfl
  rw [e2, e1]
  have h2 : i / 64 < 8 := by omega
  by_cases h8 : i < 8
  · rw [if_pos h8, show i / 64 = 0 by omega, show i / 8 = 0 by omega]; rfl
  · rw [if_neg h8]
    by_cases h64 : i < 64
    · rw [show i / 64 = 0 by omega]
      have : i / 8 < 8 := by omega
      have hne : i / 8 ≠ 0 := by omega
      generalize i / 8 = q at this hne
      match q, this with
      | 0, _ => exact absurd rfl hne
      | 1, _ | 2, _ | 3, _ | 4, _ | 5, _ | 6, _ | 7, _ => exact hu 1 i
    · have hne : i / 64 ≠ 0 := by omega
      have key : ∀ j, get8 (dig j) (nRep SV.u 2) = nRep SV.u 1 := fun j => by
        show get8 _ (N8.mk _ _ _ _ _ _ _ _) = _
        cases dig j <;> rfl
      generalize i / 64 = q at h2 hne
      match q, h2 with
      | 0, _ => exact absurd rfl hne
      | 1, _ | 2, _ | 3, _ | 4, _ | 5, _ | 6, _ | 7, _ => exact (congrArg (nAt i 1) (key (i / 8))).trans (hu 1 i)
theorem init_get : ∀ (l : List Value) (k : Nat) (tr : Tr Value) (i : Nat), (initTm.go l k tr).get i = if k ≤ i ∧ i < k + l.length then l[i - k]? else tr.get i := by
  intro l
  induction l with
  | nil => intro k tr i; rw [if_neg (by rw [List.length_nil]; omega)]; rfl
  | cons v l ih =>
    intro k tr i
    show (initTm.go l (k + 1) (tr.put k (some v))).get i = _
    rw [ih, Tr.get_put]
    by_cases h1 : k + 1 ≤ i ∧ i < k + 1 + l.length
    · rw [if_pos h1, if_pos (by simp; omega), show i - k = (i - (k + 1)) + 1 by omega, List.getElem?_cons_succ]
    · rw [if_neg h1]
      by_cases h2 : i = k
      · rw [if_pos h2, if_pos (by rw [List.length_cons]; omega), h2, Nat.sub_self]; rfl
      · rw [if_neg h2, if_neg (by rw [List.length_cons]; omega)]
theorem sm_rel (ρ : Nat → Nat) {l : List SV} {a : N8 SV} (hl : l.length ≤ 8) (h : ∀ i, i < 8 → nAt i 1 a = (l[i]?).getD .u) : TRel ρ (enc 3 (s3d a)) (initTm.go (instL ρ l) 0 .lf) := by
  refine ⟨_, rfl, fun i hi => ?_⟩
  rw [s3_at a i hi, init_get, instL_map, List.length_map]
  by_cases h8 : i < 8
  · rw [if_pos h8, h i h8]
    by_cases hl : i < l.length
    · rw [if_pos (by omega), Nat.sub_zero, List.getElem?_map, List.getElem?_eq_getElem hl]; rfl
    · rw [if_neg (by omega), List.getElem?_eq_none (by omega)]; rfl
  · rw [if_neg h8, if_neg (by omega)]; rfl
theorem sm_fin (ρ : Nat → Nat) {n : Nat} {l : List SV} {K : Tm → Bool} {a0 a1 a2 a3 a4 a5 a6 a7 : SV} (hl : l.length ≤ 8) (ha : ∀ i, i < 8 → nAt i 1 (.mk a0 a1 a2 a3 a4 a5 a6 a7) = (l[i]?).getD .u) (h : ifK (Nat.ble l.length n) (sm a0 a1 a2 a3 a4 a5 a6 a7 K) false = true) : l.length ≤ n ∧ ∃ tm, TRel ρ tm (initTm.go (instL ρ l) 0 .lf) ∧ K tm = true := by
  obtain ⟨h1, h2⟩ := ifF_true h
  rw [sm_eq] at h2
  exact ⟨Nat.le_of_ble_eq_true h1, _, sm_rel ρ hl ha, h2⟩
theorem at8 {P : Nat → Prop} (p0 : P 0) (p1 : P 1) (p2 : P 2) (p3 : P 3) (p4 : P 4) (p5 : P 5) (p6 : P 6) (p7 : P 7) : ∀ i, i < 8 → P i := fun i hi => by
  match i, hi with
  | 0, _ => exact p0
  | 1, _ => exact p1
  | 2, _ => exact p2
  | 3, _ => exact p3
  | 4, _ => exact p4
  | 5, _ => exact p5
  | 6, _ => exact p6
  | 7, _ => exact p7
theorem argK_true (ρ : Nat → Nat) {n : Nat} {l : List SV} {K : Tm → Bool} (h : argK n l K = true) : l.length ≤ n ∧ ∃ tm, TRel ρ tm (initTm.go (instL ρ l) 0 .lf) ∧ K tm = true := by
  match l, h with
  | [], h => exact ⟨Nat.zero_le _, _, TRel.empty ρ, h⟩
  | [_], h => exact sm_fin ρ (by simp) (at8 rfl rfl rfl rfl rfl rfl rfl rfl) h
  | [_, _], h => exact sm_fin ρ (by simp) (at8 rfl rfl rfl rfl rfl rfl rfl rfl) h
  | [_, _, _], h => exact sm_fin ρ (by simp) (at8 rfl rfl rfl rfl rfl rfl rfl rfl) h
  | [_, _, _, _], h => exact sm_fin ρ (by simp) (at8 rfl rfl rfl rfl rfl rfl rfl rfl) h
  | [_, _, _, _, _], h => exact sm_fin ρ (by simp) (at8 rfl rfl rfl rfl rfl rfl rfl rfl) h
  | [_, _, _, _, _, _], h => exact sm_fin ρ (by simp) (at8 rfl rfl rfl rfl rfl rfl rfl rfl) h
  | [_, _, _, _, _, _, _], h => exact sm_fin ρ (by simp) (at8 rfl rfl rfl rfl rfl rfl rfl rfl) h
  | [_, _, _, _, _, _, _, _], h => exact sm_fin ρ (by simp) (at8 rfl rfl rfl rfl rfl rfl rfl rfl) h
  | _ :: _ :: _ :: _ :: _ :: _ :: _ :: _ :: _ :: _, h =>
    have h : argL n _ K = true := h
    unfold argL at h
    rw [cntK_eq, Nat.zero_add] at h
    obtain ⟨h1, h2⟩ := ifF_true h
    exact ⟨Nat.le_of_ble_eq_true h1, initK_true ρ (TRel.empty ρ) h2⟩
def cFun (E : Env) (g : FuncId) : Bx FnF := Option.rec (motive := fun _ => Bx FnF)
  (Option.rec (motive := fun _ => Bx FnF) dF (fun fn => Option.rec (motive := fun _ => Bx FnF) dF (fun c => .mk fun cf args t m K => argK fn.ntmps args fun tm => goC (cCode E fn.ntmps c) cf tm t m fun x tm t m => Xt.rec (motive := fun _ => Bool)
    (resK E.T fn.results.toList tm t fun l => outK l fun v => K v t m) (resK E.T fn.results.toList tm t fun l => outK l fun v => K v t m) (fun _ => false) x) fn.body) (E.T.fn g))
  (fun h => .mk fun _ args t m K => h args t m K) (E.mac g)
def FnOk (ρ : Nat → Nat) (E : Env) (g : FuncId) (f : FnF) : Prop := ∀ cf, CfOk ρ E cf → ∀ args t m K (R : Value → Heap → Prop), f cf args t m K = true → (∀ v t' m', K v t' m' = true → R (v.inst ρ) (instH ρ t' m')) → ACall E.P E.T g ⟨instL ρ args⟩ (instH ρ t m) R
theorem cFun_ok {ρ : Nat → Nat} {E : Env} (hE : EnvOk ρ E) (g : FuncId) : BxP (FnOk ρ E g) (cFun E g) := by
  have hdF : BxP (FnOk ρ E g) dF := ⟨_, rfl, fun cf _ args t m K R h => by cases h⟩
  unfold cFun
  cases hm : E.mac g with
  | some h => exact ⟨_, rfl, fun cf _ args t m K R hk hR => hE.mac g h hm args t m K R hk hR⟩
  | none =>
    cases hf : E.T.fn g with
    | none => exact hdF
    | some fn =>
      cases hb : fn.body with
      | none => simp only [hb]; exact hdF
      | some c =>
        simp only [hb]
        refine ⟨_, rfl, fun cf hcf args t m K R h hR => ?_⟩
        obtain ⟨hl, tm, h3, h⟩ := argK_true ρ h
        refine acall_of' fn.ntmps _ (hE.orc _ _) hf hb (by show (instL ρ args).length + (fn.ntmps - (instL ρ args).length) = _; rw [instL_len]; omega) rfl (goC_ok (cCode_ok hE fn.ntmps c) cf hcf tm t m _ _ h (fun x tm t m s hk hs => ?_) ⟨_, _⟩ ⟨h3, rfl⟩)
        obtain ⟨tr, H⟩ := s
        obtain ⟨hT, hH⟩ := hs
        simp only at hT hH
        subst hH
        cases x with
        | normal =>
          obtain ⟨l, h4, h5⟩ := resK_true hT (m := m) hk
          obtain ⟨v, h6, h7⟩ := outK_true ρ h4 h5
          exact bodyQ_normal ⟨_, h6, hR _ _ _ h7⟩
        | ret =>
          obtain ⟨l, h4, h5⟩ := resK_true hT (m := m) hk
          obtain ⟨v, h6, h7⟩ := outK_true ρ h4 h5
          exact bodyQ_ret ⟨_, h6, hR _ _ _ h7⟩
        | exit i => cases hk
def goF (b : Bx FnF) : FnF := fun cf args t m K => Bx.rec (motive := fun _ => Bool) (fun g => g cf args t m K) b
/-- Calls, so deep. -/
def callN (E : Env) (k : Nat) : Cf := Nat.rec (motive := fun _ => Cf) (fun _ _ _ _ _ => false) (fun _ ih g args t m K => goF (cFun E g) ih args t m K) k
theorem callN_ok {ρ : Nat → Nat} {E : Env} (hE : EnvOk ρ E) (k : Nat) : CfOk ρ E (callN E k) := by
  induction k with
  | zero => intro g args t m K R h; cases h
  | succ k ih =>
    intro g args t m K R h hR
    obtain ⟨f, h1, h2⟩ := cFun_ok hE g
    have h : goF (cFun E g) (callN E k) args t m K = true := h
    unfold goF at h
    rw [h1] at h
    exact h2 _ ih args t m K R h hR
/-- **From a run by the kernel to what a call comes to.** -/
theorem run_call {ρ : Nat → Nat} {E : Env} (hE : EnvOk ρ E) (k : Nat) {f : FuncId} {args : List SV} {t : HT} {m : Nat} {K : KV} {R : Value → Heap → Prop} (h : callN E k f args t m K = true) (hR : ∀ v t' m', K v t' m' = true → R (v.inst ρ) (instH ρ t' m')) : ACall E.P E.T f ⟨instL ρ args⟩ (instH ρ t m) R := callN_ok hE k f args t m K R h hR
end
end Go.Ev
