/- Values that are not known whole: operands, operations. -/
import Derived.Test.YthmcpmdohmfeiaaGreatDoorEvWx
namespace Go.Ev
open Go
set_option linter.unusedVariables false
set_option linter.unusedSimpArgs false
set_option linter.constructorNameAsVariable false
/-- What is taken for granted of two words, in which order: 0 equal, 1 less. -/
structure Asm where
  c : Nat
  x : W
  y : W
  b : Bool
def Asm.ok (ρ : Nat → Nat) (a : Asm) : Prop := (bif a.c.beq 0 then (evW ρ a.x).beq (evW ρ a.y) else (evW ρ a.x).blt (evW ρ a.y)) = a.b
structure Env where
  P : Program
  T : Tab
  /-- The zeros of great types, as pieces. -/
  zt : TypeId → Option (List (Nat × Z0))
  G : List Asm
  /-- Calls that are told in short. -/
  mac : FuncId → Option (List SV → HT → Nat → KV → Bool)
structure EnvOk (ρ : Nat → Nat) (E : Env) : Prop where
  zt : ∀ e zs, E.zt e = some zs → E.T.zero e = some (.agg ⟨flatZ zs⟩)
  G : ∀ a ∈ E.G, a.ok ρ
  orc : ∀ f l, E.T.orc f l = none
  mac : ∀ g h, E.mac g = some h → ∀ (args : List SV) (t : HT) (m : Nat) (K : KV) (R : Value → Heap → Prop), h args t m K = true →
    (∀ v t' m', K v t' m' = true → R (v.inst ρ) (instH ρ t' m')) → ACall E.P E.T g ⟨instL ρ args⟩ (instH ρ t m) R
/-! Constants -/
def cv0 : Value → Option SV
  | .int k (.ofNat a) => some (.n k a)
  | .int k (.negSucc a) => some (.z k a)
  | .bool true => some .t
  | .bool false => some .f
  | .pointer none => some .np
  | .slice none 0 0 => some .ns
  | .map none => some .nm
  | .nilFunc => some .nf
  | .string s => some (.st (s.data.toList.map fun b => .n .u8 b.toNat))
  | _ => none
def cvL : List Value → Option (List SV)
  | [] => some []
  | v :: l => match cv0 v, cvL l with
    | some s, some r => some (s :: r)
    | _, _ => none
def cv : Value → Option SV
  | .agg ⟨l⟩ => match cvL l with | some r => some (.ag r) | none => none
  | v => cv0 v
theorem cv0_spec (ρ : Nat → Nat) {v : Value} {s : SV} (h : cv0 v = some s) : s.inst ρ = v ∧ plain v = true := by
  unfold cv0 at h
  split at h <;> cases h
  case h_9 s =>
    refine ⟨?_, rfl⟩
    obtain ⟨⟨d⟩⟩ := s
    simp only [SV.inst, List.map_map]
    congr 3
    have : (byteOf ρ ∘ fun b : UInt8 => SV.n .u8 b.toNat) = id := by funext b; simp [byteOf]
    rw [this, List.map_id]
  all_goals exact ⟨rfl, rfl⟩
theorem cvL_spec (ρ : Nat → Nat) : ∀ {l : List Value} {r : List SV}, cvL l = some r → instL ρ r = l ∧ l.all plain = true := by
  intro l
  induction l with
  | nil => intro r h; cases h; exact ⟨rfl, rfl⟩
  | cons v l ih =>
    intro r h
    simp only [cvL] at h
    split at h
    · rename_i s r' h1 h2
      cases h
      obtain ⟨a, b⟩ := cv0_spec ρ h1
      obtain ⟨c, d⟩ := ih h2
      exact ⟨by rw [instL, a, c], by rw [List.all_cons, b, d]; rfl⟩
    · cases h
theorem plain_closed {v : Value} (h : plain v = true) : closed v = true := by
  cases v <;> first | exact h | (simp [plain] at h)
theorem cv_spec (ρ : Nat → Nat) {v : Value} {s : SV} (h : cv v = some s) : s.inst ρ = v ∧ closed v = true := by
  unfold cv at h
  split at h
  · rename_i l
    split at h
    · rename_i r hr
      cases h
      obtain ⟨a, b⟩ := cvL_spec ρ hr
      exact ⟨by rw [SV.inst, a], b⟩
    · cases h
  · obtain ⟨a, b⟩ := cv0_spec ρ h
    exact ⟨a, plain_closed b⟩
/-- Numbers and truths that are known. -/
def litV : SV → Option Value
  | .n k a => some (.int k (.ofNat a))
  | .z k a => some (.int k (.negSucc a))
  | .t => some (.bool true)
  | .f => some (.bool false)
  | _ => none
theorem litV_spec (ρ : Nat → Nat) {s : SV} {v : Value} (h : litV s = some v) : s.inst ρ = v ∧ plain v = true := by
  unfold litV at h
  split at h <;> cases h <;> exact ⟨rfl, rfl⟩
def litL : List SV → Option (List Value)
  | [] => some []
  | v :: l => match litV v, litL l with
    | some s, some r => some (s :: r)
    | _, _ => none
theorem litL_spec (ρ : Nat → Nat) : ∀ {l : List SV} {r : List Value}, litL l = some r → instL ρ l = r ∧ r.all plain = true := by
  intro l
  induction l with
  | nil => intro r h; cases h; exact ⟨rfl, rfl⟩
  | cons v l ih =>
    intro r h
    simp only [litL] at h
    split at h
    · rename_i s r' h1 h2
      cases h
      obtain ⟨a, b⟩ := litV_spec ρ h1
      obtain ⟨c, d⟩ := ih h2
      exact ⟨by rw [instL, a, c], by rw [List.all_cons, b, d]; rfl⟩
    · cases h
noncomputable section
def evK (x : Operand) (tm : Tm) (K : SV → Bool) : Bool :=
  Operand.rec (motive := fun _ => Bool) (fun t => gT t tm K) (fun v => bnd (cv v) K) (fun _ => false) (fun f => K (.fn f [] [])) x
theorem evK_true {ρ : Nat → Nat} {x : Operand} {tm : Tm} {tr : Tr Value} (hT : TRel ρ tm tr) {K : SV → Bool} (h : evK x tm K = true) : ∃ v, aeval tr x = some (v.inst ρ) ∧ K v = true := by
  cases x with
  | tmp t =>
    obtain ⟨v, h1, h2⟩ := gT_true hT h
    exact ⟨v, by simp only [aeval, h1], h2⟩
  | const v =>
    obtain ⟨s, h1, h2⟩ := bnd_true (r := cv v) h
    obtain ⟨a, b⟩ := cv_spec ρ h1
    exact ⟨s, by simp only [aeval, b, cond_true, a], h2⟩
  | global g => cases h
  | func f => exact ⟨.fn f [] [], rfl, h⟩
def evsK (l : List Operand) (tm : Tm) : (List SV → Bool) → Bool := List.rec (motive := fun _ => (List SV → Bool) → Bool) (fun K => K []) (fun x _ ih K => evK x tm fun v => ih fun l => K (v :: l)) l
theorem evsK_true {ρ : Nat → Nat} {tm : Tm} {tr : Tr Value} (hT : TRel ρ tm tr) : ∀ {l : List Operand} {K : List SV → Bool}, evsK l tm K = true → ∃ vs, aevals tr l = some (instL ρ vs) ∧ K vs = true := by
  intro l
  induction l with
  | nil => intro K h; exact ⟨[], rfl, h⟩
  | cons x l ih =>
    intro K h
    obtain ⟨v, h1, h2⟩ := evK_true hT (K := fun v => evsK l tm fun l => K (v :: l)) h
    obtain ⟨vs, h3, h4⟩ := ih h2
    exact ⟨v :: vs, by simp only [aevals, h1, h3, instL], h4⟩
def evpK (l : List (Nat × Operand)) (tm : Tm) : (List (Nat × SV) → Bool) → Bool := List.rec (motive := fun _ => (List (Nat × SV) → Bool) → Bool) (fun K => K []) (fun p _ ih K => evK p.2 tm fun v => ih fun l => K ((p.1, v) :: l)) l
def instP (ρ : Nat → Nat) (l : List (Nat × SV)) : List (Nat × Value) := l.map fun p => (p.1, p.2.inst ρ)
theorem evpK_true {ρ : Nat → Nat} {tm : Tm} {tr : Tr Value} (hT : TRel ρ tm tr) : ∀ {l : List (Nat × Operand)} {K : List (Nat × SV) → Bool}, evpK l tm K = true → ∃ vs, aevalp tr l = some (instP ρ vs) ∧ K vs = true := by
  intro l
  induction l with
  | nil => intro K h; exact ⟨[], rfl, h⟩
  | cons x l ih =>
    intro K h
    obtain ⟨i, x⟩ := x
    obtain ⟨v, h1, h2⟩ := evK_true hT (K := fun v => evpK l tm fun l => K ((i, v) :: l)) h
    obtain ⟨vs, h3, h4⟩ := ih h2
    exact ⟨(i, v) :: vs, by simp only [aevalp, h1, h3]; rfl, h4⟩
def evoK (x : Option Operand) (tm : Tm) (K : Option SV → Bool) : Bool := Option.rec (motive := fun _ => Bool) (K none) (fun x => evK x tm fun v => K (some v)) x
theorem evoK_true {ρ : Nat → Nat} {x : Option Operand} {tm : Tm} {tr : Tr Value} (hT : TRel ρ tm tr) {K : Option SV → Bool} (h : evoK x tm K = true) : ∃ v, aevalo tr x = some (v.map (SV.inst ρ)) ∧ K v = true := by
  cases x with
  | none => exact ⟨none, rfl, h⟩
  | some x =>
    obtain ⟨v, h1, h2⟩ := evK_true hT (K := fun v => K (some v)) h
    exact ⟨some v, by simp only [aevalo, h1, Option.map_some], h2⟩
/-! What an operation answers: a value, memory -/
/-- An operation's value is the evaluator's. -/
def OpV (ρ : Nat → Nat) (E : Env) (tr : Tr Value) (o : Oper) (t : HT) (n : Nat) (K : KV) : Prop :=
  ∃ v t' n', (aop E.P E.T tr o (instH ρ t n) = some (.val (v.inst ρ), instH ρ t' n') ∨ (v = .u ∧ aop E.P E.T tr o (instH ρ t n) = some (.skip, instH ρ t' n'))) ∧ K v t' n' = true
theorem opV {ρ : Nat → Nat} {E : Env} {tr : Tr Value} {o : Oper} {t t' : HT} {n n' : Nat} {K : KV} (v : SV) (ha : aop E.P E.T tr o (instH ρ t n) = some (.val (v.inst ρ), instH ρ t' n')) (hk : K v t' n' = true) : OpV ρ E tr o t n K := ⟨v, t', n', .inl ha, hk⟩
abbrev Hd := Env → Tm → Oper → HT → Nat → KV → Bool
def HdOk (ρ : Nat → Nat) (E : Env) (op : Op) (h : Hd) : Prop := ∀ (tm : Tm) (tr : Tr Value) (_ : TRel ρ tm tr) (o : Oper) (t : HT) (n : Nat) (K : KV), o.op = op → h E tm o t n K = true → OpV ρ E tr o t n K
def hMove (x : Operand) : Hd := fun E tm o t n K => evK x tm fun v => K v t n
theorem hMove_ok (ρ : Nat → Nat) (E : Env) (x : Operand) : HdOk ρ E (.move x) (hMove x) := by
  intro tm tr hT o t n K ho h
  obtain ⟨v, h1, h2⟩ := evK_true hT (K := fun v => K v t n) h
  exact opV v (by unfold aop; simp only [ho, h1, val]) h2
theorem hAssign_ok (ρ : Nat → Nat) (E : Env) (x : Operand) : HdOk ρ E (.assign x) (hMove x) := by
  intro tm tr hT o t n K ho h
  obtain ⟨v, h1, h2⟩ := evK_true hT (K := fun v => K v t n) h
  exact opV v (by unfold aop; simp only [ho, h1, val]) h2
def truK (v : SV) (a b : Bool) : Bool := B4.rec (motive := fun _ => Bool) false a b false (asB v)
theorem truK_true {v : SV} {a b : Bool} (h : truK v a b = true) : (v = .t ∧ a = true) ∨ (v = .f ∧ b = true) := by
  unfold truK at h
  cases ha : asB v with
  | no => rw [ha] at h; cases h
  | u => rw [ha] at h; cases h
  | t => rw [ha] at h; exact .inl ⟨asB_t ha, h⟩
  | f => rw [ha] at h; exact .inr ⟨asB_f ha, h⟩
def pickJ (c u v : SV) (K : SV → Bool) : Bool := truK c (K u) (K v)
def notJ (v : SV) (K : SV → Bool) : Bool := truK v (K .f) (K .t)
def hPick (c a b : Operand) : Hd := fun E tm o t n K => evK c tm fun vc => evK a tm fun u => evK b tm fun v => pickJ vc u v fun s => K s t n
theorem hPick_ok (ρ : Nat → Nat) (E : Env) (c a b : Operand) : HdOk ρ E (.pick c a b) (hPick c a b) := by
  intro tm tr hT o t n K ho h
  obtain ⟨vc, h1, h⟩ := evK_true hT h
  obtain ⟨u, h2, h⟩ := evK_true hT h
  obtain ⟨v, h3, h⟩ := evK_true hT h
  unfold pickJ at h
  rcases truK_true h with ⟨rfl, k⟩ | ⟨rfl, k⟩
  · exact opV u (by unfold aop; simp only [ho, h1, h2, h3, SV.inst, cond_true]) k
  · exact opV v (by unfold aop; simp only [ho, h1, h2, h3, SV.inst, cond_false]) k
def cellsV (v : SV) : List SV := match v with
  | .ag l => l
  | .big zs => baseL (Z0.ps zs)
  | v => [v]
theorem cellsV_inst (ρ : Nat → Nat) (v : SV) : (v.inst ρ).cells.toList = (cellsV v).map (SV.inst ρ) := by
  cases v
  case big zs => exact flatZ_inst ρ zs
  all_goals simp [SV.inst, cellsV, Value.cells, instL_map, undef]
/-- A type's zeros. -/
def zeroCs (E : Env) (e : TypeId) : Option Cs := match E.zt e with
  | some zs => some (.tr (Z0.ps zs) .lf)
  | none => match E.T.zero e with
    | some z => match cv z with
      | some s => some (tabC (cellsV s))
      | none => none
    | none => none
theorem closed_flat (zs : List (Nat × Z0)) : closed (.agg ⟨flatZ zs⟩) = true := by
  show (flatZ zs).all plain = true
  induction zs with
  | nil => rfl
  | cons p r ih =>
    have e1 : flatZ (p :: r) = List.replicate p.1 p.2.val ++ flatZ r := rfl
    rw [e1, List.all_append, ih, Bool.and_true, List.all_eq_true]
    intro v hv
    rw [(List.mem_replicate.1 hv).2]
    cases p.2 <;> rfl
theorem mapIdx_self {α : Type} : ∀ (l : List α), (l.mapIdx fun _ d => d) = l := by
  intro l
  induction l with
  | nil => rfl
  | cons a l ih => rw [List.mapIdx_cons, ih]
theorem zeroCs_spec {ρ : Nat → Nat} {E : Env} (hE : EnvOk ρ E) {e : TypeId} {c : Cs} (h : zeroCs E e = some c) : ∃ z, E.T.zero e = some z ∧ closed z = true ∧ z.cells.toList = c.toL.map (SV.inst ρ) := by
  unfold zeroCs at h
  split at h
  · rename_i zs hz
    cases h
    refine ⟨_, hE.zt e zs hz, closed_flat zs, ?_⟩
    show flatZ zs = _
    rw [flatZ_inst ρ]
    congr 1
    show _ = (baseL (Z0.ps zs)).mapIdx fun i d => ((Tr.lf : Tr SV).get i).getD d
    exact (mapIdx_self _).symm
  · split at h
    · rename_i z hz
      split at h
      · rename_i s hs
        cases h
        obtain ⟨a, b⟩ := cv_spec ρ hs
        exact ⟨z, hz, b, by rw [← a, cellsV_inst, tabC_toL]⟩
      · cases h
    · cases h
def alJ (E : Env) (e : TypeId) (t : HT) (n : Nat) (K : KV) : Bool := bnd (zeroCs E e) fun c => pushK ⟨c, e, false⟩ (.p n 0) t n K
def hAlloc (e : TypeId) : Hd := fun E tm o t n K => alJ E e t n K
theorem hAlloc_ok {ρ : Nat → Nat} {E : Env} (hE : EnvOk ρ E) (e : TypeId) : HdOk ρ E (.alloc e) (hAlloc e) := by
  intro tm tr hT o t n K ho h
  obtain ⟨c, h1, h⟩ := bnd_true (r := zeroCs E e) h
  obtain ⟨t', ht, h⟩ := pushK_true h
  obtain ⟨z, z1, z2, z3⟩ := zeroCs_spec hE h1
  refine opV (.p n 0) (t' := t') (n' := n + 1) ?_ h
  unfold aop
  simp only [ho, z1, z2, cond_true, ht, SOb.inst, z3, SV.inst]
  rfl
def boxK (v : SV) (K : Cs → Bool) : Bool := match v with
  | .big zs => K (.tr (Z0.ps zs) .lf)
  | .ag l => mkC l K
  | v => K (.a 1 (w4 (.mk v .u .u .u .u .u .u .u)))
theorem boxK_true {v : SV} {K : Cs → Bool} (h : boxK v K = true) : ∃ c, c.toL = cellsV v ∧ K c = true := by
  unfold boxK at h
  split at h
  · rename_i zs
    exact ⟨.tr (Z0.ps zs) .lf, (mapIdx_self (baseL (Z0.ps zs)) : _), h⟩
  · exact mkC_true h
  · rename_i h1 h2
    refine ⟨_, ?_, h⟩
    have e : cellsV v = [v] := by
      cases v <;> first | rfl | exact absurd rfl (h1 _) | exact absurd rfl (h2 _)
    rw [e]; rfl
def hBox (e : TypeId) (x : Operand) : Hd := fun E tm o t n K => evK x tm fun v => boxK v fun c => pushK ⟨c, e, false⟩ (.p n 0) t n K
theorem hBox_ok (ρ : Nat → Nat) (E : Env) (e : TypeId) (x : Operand) : HdOk ρ E (.box e x) (hBox e x) := by
  intro tm tr hT o t n K ho h
  obtain ⟨v, h1, h⟩ := evK_true hT h
  obtain ⟨c, h2, h⟩ := boxK_true h
  obtain ⟨t', ht, h⟩ := pushK_true h
  refine opV (.p n 0) (t' := t') (n' := n + 1) ?_ h
  unfold aop
  simp only [ho, h1, ht, SOb.inst, cellsV_inst, h2, SV.inst]
  rfl
/-! Memory -/
def ptrK (v : SV) (K : Nat → Nat → Bool) : Bool := Pp.rec (motive := fun _ => Bool) false (fun b o => K b o) (asP v)
theorem ptrK_true {v : SV} {K : Nat → Nat → Bool} (h : ptrK v K = true) : ∃ b o, v = .p b o ∧ K b o = true := by
  unfold ptrK at h
  cases ha : asP v with
  | no => rw [ha] at h; cases h
  | yes b o => rw [ha] at h; exact ⟨b, o, asP_yes ha, h⟩
def ldI (T : Tab) (t : TypeId) : Option (Bool × Nat) := match T.under t, T.size t with
  | some d, some n => some (isRow d, n)
  | _, _ => none
theorem ldI_spec {T : Tab} {t : TypeId} {r : Bool} {n : Nat} (h : ldI T t = some (r, n)) : ∃ d, T.under t = some d ∧ T.size t = some n ∧ isRow d = r := by
  unfold ldI at h
  split at h
  · rename_i d m h1 h2; cases h; exact ⟨d, h1, h2, rfl⟩
  · cases h
def rdK (c : Cs) (off : Nat) (p : Bool × Nat) (K : SV → Bool) : Bool := Prod.rec (motive := fun _ => Bool) (fun r n => Bool.rec (motive := fun _ => Bool) (cgK c off K) (crK c off n fun l => K (.ag l)) r) p
def ldK (T : Tab) (ty : TypeId) (v : SV) (t : HT) (K : SV → Bool) : Bool := ptrK v fun b off => bnd (ldI T ty) fun p => obK b t fun c e r => rdK c off p K
theorem ldK_true (ρ : Nat → Nat) {T : Tab} {ty : TypeId} {v : SV} {t : HT} {n : Nat} {K : SV → Bool} (h : ldK T ty v t K = true) : ∃ u, aload T ty (v.inst ρ) (instH ρ t n) = some (u.inst ρ) ∧ K u = true := by
  obtain ⟨b, off, rfl, h⟩ := ptrK_true h
  obtain ⟨⟨r, m⟩, h1, h⟩ := bnd_true (r := ldI T ty) h
  obtain ⟨c, e, ro, h2, h⟩ := obK_true h
  obtain ⟨d, g1, g2, g3⟩ := ldI_spec h1
  simp only [SV.inst, aload, h2 ρ n, g1, g2, g3]
  cases r
  · obtain ⟨u, k1, k2⟩ := cgK_true (c := c) (i := off) h
    exact ⟨u, by simp only [cond_false, List.getElem?_map, k1, Option.map_some], k2⟩
  · obtain ⟨k1, k2⟩ := crK_true (c := c) (i := off) (n := m) (K := fun l => K (.ag l)) h
    refine ⟨_, ?_, k2⟩
    have e1 : ((c.toL.map (SV.inst ρ)).drop off).take m = ((c.toL.drop off).take m).map (SV.inst ρ) := by rw [List.map_take, List.map_drop]
    simp only [cond_true, e1, List.length_map, k1, Nat.beq_refl, SV.inst, instL_map]
def hLoad (ty : TypeId) (a : Operand) : Hd := fun E tm o t n K => evK a tm fun v => ldK E.T ty v t fun u => K u t n
theorem hLoad_ok (ρ : Nat → Nat) (E : Env) (ty : TypeId) (a : Operand) : HdOk ρ E (.load ty a) (hLoad ty a) := by
  intro tm tr hT o t n K ho h
  obtain ⟨v, h1, h⟩ := evK_true hT h
  obtain ⟨u, h2, h⟩ := ldK_true ρ (n := n) h
  exact opV u (by unfold aop; simp only [ho, h1, h2, val]) h
def oneK (v : SV) (K : Bool) : Bool := ifK (isOne v) K false
theorem oneK_true (ρ : Nat → Nat) {v : SV} {K : Bool} (h : oneK v K = true) : one (v.inst ρ) = true ∧ K = true := by
  cases v <;> first | exact ⟨rfl, h⟩ | (cases h; done)
def onesK (l : List SV) (K : Bool) : Bool := List.rec (motive := fun _ => Bool) K (fun v _ ih => oneK v ih) l
theorem onesK_true (ρ : Nat → Nat) {l : List SV} {K : Bool} (h : onesK l K = true) : (l.map (SV.inst ρ)).all one = true ∧ K = true := by
  induction l with
  | nil => exact ⟨rfl, h⟩
  | cons v l ih =>
    obtain ⟨h1, h2⟩ := oneK_true ρ (K := onesK l K) h
    obtain ⟨h3, h4⟩ := ih h2
    exact ⟨by rw [List.map_cons, List.all_cons, h1, h3]; rfl, h4⟩
/-- Cells into a block. -/
def putK (b off : Nat) (vs : List SV) (t : HT) (K : HT → Bool) : Bool := obK b t fun c e r => Bool.rec (motive := fun _ => Bool) (onesK vs (cgz c off (cwK vs off c fun c => hpK b (some ⟨c, e, false⟩) t K))) false r
where cgz (c : Cs) (off : Nat) (K : Bool) : Bool := List.rec (motive := fun _ => Bool) false (fun _ _ _ => cgK c off fun _ => K) vs
theorem putK_true (ρ : Nat → Nat) {b off : Nat} {vs : List SV} {t : HT} {n : Nat} {K : HT → Bool} (h : putK b off vs t K = true) : ∃ t', aput b off (vs.map (SV.inst ρ)) (instH ρ t n) = some (instH ρ t' n) ∧ K t' = true := by
  obtain ⟨c, e, r, h1, h⟩ := obK_true h
  cases r
  · obtain ⟨h2, h⟩ := onesK_true ρ h
    have h3 : off ≤ c.toL.length ∧ cwK vs off c (fun c => hpK b (some ⟨c, e, false⟩) t K) = true := by
      cases vs with
      | nil => cases h
      | cons v vs =>
        obtain ⟨u, g1, g2⟩ := cgK_true (c := c) (i := off) (K := fun _ => cwK (v :: vs) off c (fun c => hpK b (some ⟨c, e, false⟩) t K)) (show cgK c off (fun _ => cwK (v :: vs) off c (fun c => hpK b (some ⟨c, e, false⟩) t K)) = true from h)
        exact ⟨Nat.le_of_lt (List.getElem?_eq_some_iff.1 g1).1, g2⟩
    obtain ⟨c', k1, k2, k3⟩ := cwK_true h3.2 h3.1
    obtain ⟨t', k4, k3⟩ := hpK_true k3
    refine ⟨t', ?_, k3⟩
    have hl : (off + (vs.map (SV.inst ρ)).length).ble (c.toL.map (SV.inst ρ)).length = true := Nat.ble_eq_true_of_le (by simpa using k2)
    simp only [aput, h1 ρ n, h2, hl, Bool.not_false, Bool.and_self, cond_true, k4, SOb.inst, k1]
    congr 3
    rw [splice_eq _ _ _ (by simpa using k2)]
    simp [List.map_take, List.map_drop]
  · cases h
def lenK {α : Type} (l : List α) (n : Nat) (K : Bool) : Bool := List.rec (motive := fun _ => Nat → Bool) (fun n => Nat.rec (motive := fun _ => Bool) K (fun _ _ => false) n) (fun _ _ ih n => Nat.rec (motive := fun _ => Bool) false (fun m _ => ih m) n) l n
theorem lenK_true {α : Type} {l : List α} : ∀ {n : Nat} {K : Bool}, lenK l n K = true → l.length = n ∧ K = true := by
  induction l with
  | nil =>
    intro n K h
    cases n with
    | zero => exact ⟨rfl, h⟩
    | succ n => cases h
  | cons a l ih =>
    intro n K h
    cases n with
    | zero => cases h
    | succ n => obtain ⟨h1, h2⟩ := ih (n := n) h; exact ⟨by rw [List.length_cons, h1], h2⟩
def stK (T : Tab) (ty : TypeId) (v u : SV) (t : HT) (K : HT → Bool) : Bool := ptrK v fun b off => bnd (T.size ty) fun m => lenK (cellsV u) m (putK b off (cellsV u) t K)
theorem stK_true (ρ : Nat → Nat) {T : Tab} {ty : TypeId} {v u : SV} {t : HT} {n : Nat} {K : HT → Bool} (h : stK T ty v u t K = true) : ∃ t', astore T ty (v.inst ρ) (u.inst ρ) (instH ρ t n) = some (instH ρ t' n) ∧ K t' = true := by
  obtain ⟨b, off, rfl, h⟩ := ptrK_true h
  obtain ⟨m, h1, h⟩ := bnd_true (r := T.size ty) h
  obtain ⟨h2, h⟩ := lenK_true h
  obtain ⟨t', h3, h⟩ := putK_true ρ (n := n) h
  refine ⟨t', ?_, h⟩
  have hs : (u.inst ρ).cells.size.beq m = true := by
    rw [← Array.length_toList, cellsV_inst, List.length_map, h2]; simp
  simp only [SV.inst, astore, h1, hs, cond_true, cellsV_inst, h3]
def hStore (ty : TypeId) (a x : Operand) : Hd := fun E tm o t n K => evK a tm fun v => evK x tm fun u => stK E.T ty v u t fun t => K .u t n
theorem hStore_ok (ρ : Nat → Nat) (E : Env) (ty : TypeId) (a x : Operand) : HdOk ρ E (.store ty a x) (hStore ty a x) := by
  intro tm tr hT o t n K ho h
  obtain ⟨v, h1, h⟩ := evK_true hT h
  obtain ⟨u, h2, h⟩ := evK_true hT h
  obtain ⟨t', h3, h⟩ := stK_true ρ (n := n) h
  exact ⟨.u, t', n, .inr ⟨rfl, by unfold aop; simp only [ho, h1, h2, h3, skp]⟩, h⟩
def nilcK (v : SV) (K : Bool) : Bool := ifK (isNc v) K false
def hNil (x : Operand) : Hd := fun E tm o t n K => evK x tm fun v => nilcK v (K v t n)
theorem hNil_ok (ρ : Nat → Nat) (E : Env) (x : Operand) : HdOk ρ E (.nilCheck x) (hNil x) := by
  intro tm tr hT o t n K ho h
  obtain ⟨v, h1, h⟩ := evK_true hT h
  obtain ⟨hn, h⟩ := ifF_true h
  cases v <;> first | (cases hn; done) | exact opV _ (by unfold aop; simp only [ho, h1, SV.inst]) h
def fieldOff (T : Tab) (s : TypeId) (f : Nat) : Option Nat := match T.under s with
  | some (.struct fields) => match fields[f]? with
    | some fd => match T.size fd.type with
      | some (_ + 1) => some fd.offset
      | _ => none
    | none => none
  | _ => none
def faJ (E : Env) (s : TypeId) (f : Nat) (v : SV) (K : SV → Bool) : Bool := ptrK v fun b off => bnd (fieldOff E.T s f) fun k => fN (Nat.add off k) fun q => K (.p b q)
def hFieldAddr (s : TypeId) (x : Operand) (f : Nat) : Hd := fun E tm o t n K => evK x tm fun v => faJ E s f v fun u => K u t n
theorem hFieldAddr_ok (ρ : Nat → Nat) (E : Env) (s : TypeId) (x : Operand) (f : Nat) : HdOk ρ E (.fieldAddr s x f) (hFieldAddr s x f) := by
  intro tm tr hT o t n K ho h
  obtain ⟨v, h1, h⟩ := evK_true hT h
  obtain ⟨b, off, rfl, h⟩ := ptrK_true h
  obtain ⟨k, h2, h⟩ := bnd_true (r := fieldOff E.T s f) h
  rw [fN_eq] at h
  refine opV (.p b (off + k)) ?_ h
  unfold fieldOff at h2
  split at h2
  · rename_i fields hu
    split at h2
    · rename_i fd hf
      split at h2
      · rename_i hs
        cases h2
        unfold aop
        simp only [ho, h1, SV.inst, afield, hu, hf, hs, val]
      · cases h2
    · cases h2
  · cases h2
def fieldPl (T : Tab) (t : TypeId) (f : Nat) : Option (Nat × Bool × Nat) := match T.under t with
  | some (.struct fields) => match fields[f]? with
    | some fd => match ldI T fd.type with
      | some p => some (fd.offset, p)
      | none => none
    | none => none
  | _ => none
def aggK (v : SV) (K : List SV → Bool) : Bool := bnd (asA v) K
theorem aggK_true {v : SV} {K : List SV → Bool} (h : aggK v K = true) : ∃ l, v = .ag l ∧ K l = true := by
  obtain ⟨l, h1, h2⟩ := bnd_true (r := asA v) h
  exact ⟨l, asA_some h1, h2⟩
def apK (l : List SV) (off : Nat) (p : Bool × Nat) (K : SV → Bool) : Bool := Prod.rec (motive := fun _ => Bool) (fun r n => Bool.rec (motive := fun _ => Bool) (nthK l off K) (dropK off l fun l => takeK n l fun l => K (.ag l)) r) p
theorem apK_true (ρ : Nat → Nat) {T : Tab} {ty : TypeId} {l : List SV} {off : Nat} {p : Bool × Nat} {K : SV → Bool} (hp : ldI T ty = some p) (h : apK l off p K = true) : ∃ u, apart T ty ⟨instL ρ l⟩ off = some (u.inst ρ) ∧ K u = true := by
  obtain ⟨r, m⟩ := p
  obtain ⟨d, g1, g2, g3⟩ := ldI_spec hp
  simp only [apart, g1, g2, g3]
  cases r
  · obtain ⟨u, k1, k2⟩ := nthK_true (l := l) (n := off) h
    exact ⟨u, by simp only [cond_false, List.getElem?_toArray, instL_map, List.getElem?_map, k1, Option.map_some], k2⟩
  · have h : dropK off l (fun l => takeK m l fun l => K (.ag l)) = true := h
    rw [dropK_eq] at h
    obtain ⟨k1, k2⟩ := takeK_true m (K := fun l => K (.ag l)) h
    refine ⟨_, ?_, k2⟩
    simp only [cond_true, SV.inst, instL_map]
    congr 2
    rw [← Array.toList_inj]
    simp [List.map_take, List.map_drop]
def fdJ (E : Env) (ty : TypeId) (f : Nat) (v : SV) (K : SV → Bool) : Bool := aggK v fun l => bnd (fieldPl E.T ty f) fun q => Prod.rec (motive := fun _ => Bool) (fun off p => apK l off p K) q
def hField (ty : TypeId) (x : Operand) (f : Nat) : Hd := fun E tm o t n K => evK x tm fun v => fdJ E ty f v fun u => K u t n
theorem hField_ok (ρ : Nat → Nat) (E : Env) (ty : TypeId) (x : Operand) (f : Nat) : HdOk ρ E (.field ty x f) (hField ty x f) := by
  intro tm tr hT o t n K ho h
  obtain ⟨v, h1, h⟩ := evK_true hT h
  obtain ⟨l, rfl, h⟩ := aggK_true h
  obtain ⟨⟨off, p⟩, h2, h⟩ := bnd_true (r := fieldPl E.T ty f) h
  unfold fieldPl at h2
  split at h2
  · rename_i fields hu
    split at h2
    · rename_i fd hf
      split at h2
      · rename_i p' hp
        cases h2
        obtain ⟨u, k1, k2⟩ := apK_true ρ hp h
        exact opV u (by unfold aop; simp only [ho, h1, SV.inst, hu, hf, k1, val]) k2
      · cases h2
    · cases h2
  · cases h2
def extK (v : SV) (K : List SV → Bool) : Bool := bnd (asU v) K
def exJ (i : Nat) (v : SV) (K : SV → Bool) : Bool := extK v fun l => nthK l i K
def hExtract (x : Operand) (i : Nat) : Hd := fun E tm o t n K => evK x tm fun v => exJ i v fun u => K u t n
theorem hExtract_ok (ρ : Nat → Nat) (E : Env) (x : Operand) (i : Nat) : HdOk ρ E (.extract x i) (hExtract x i) := by
  intro tm tr hT o t n K ho h
  obtain ⟨v, h1, h⟩ := evK_true hT h
  obtain ⟨l, hl, h⟩ := bnd_true (r := asU v) h
  obtain rfl := asU_some hl
  obtain ⟨u, k1, k2⟩ := nthK_true (l := l) (n := i) h
  exact opV u (by unfold aop; simp only [ho, h1, SV.inst, List.getElem?_toArray, instL_map, List.getElem?_map, k1, Option.map_some, val]) k2
def hNot (x : Operand) : Hd := fun E tm o t n K => evK x tm fun v => notJ v fun s => K s t n
theorem hNot_ok (ρ : Nat → Nat) (E : Env) (ty : TypeId) (x : Operand) : HdOk ρ E (.unOp .not ty x) (hNot x) := by
  intro tm tr hT o t n K ho h
  obtain ⟨v, h1, h⟩ := evK_true hT h
  unfold notJ at h
  rcases truK_true h with ⟨rfl, k⟩ | ⟨rfl, k⟩
  · exact opV .f (by unfold aop; simp only [ho, h1, SV.inst]; rfl) k
  · exact opV .t (by unfold aop; simp only [ho, h1, SV.inst]; rfl) k
def hMakeFunc (fn : Fn) (fs cs : Array Operand) : Hd := fun E tm o t n K => match fn with
  | .func g => evsK fs.toList tm fun l => evsK cs.toList tm fun k => K (.fn g l k) t n
  | _ => false
theorem hMakeFunc_ok (ρ : Nat → Nat) (E : Env) (fn : Fn) (fs cs : Array Operand) : HdOk ρ E (.makeFunc fn fs cs) (hMakeFunc fn fs cs) := by
  intro tm tr hT o t n K ho h
  unfold hMakeFunc at h
  split at h
  · rename_i g
    obtain ⟨l, h1, h⟩ := evsK_true hT h
    obtain ⟨k, h2, h⟩ := evsK_true hT h
    exact opV (.fn g l k) (by unfold aop; simp only [ho, h1, h2, SV.inst]) h
  · cases h
end
end Go.Ev
