/- Slots, as what is done with them: a row of eight is a function of what takes its eight parts. -/
import Derived.Test.YthmcpmdohmfeiaaGreatDoorEa4
namespace Go.Ev
open Go
set_option linter.unusedVariables false
set_option linter.unusedSimpArgs false
set_option linter.constructorNameAsVariable false
noncomputable section
abbrev F8 (α : Type) := (α → α → α → α → α → α → α → α → Bool) → Bool
@[reducible] def NF (k : Nat) : Type := Nat.rec (motive := fun _ => Type) SV (fun _ T => F8 T) k
/-- A nest, told so. -/
def enc (k : Nat) : Nest k SV → NF k := Nat.rec (motive := fun k => Nest k SV → NF k) (fun v => v) (fun k ih r => N8.rec (motive := fun _ => F8 (NF k)) (fun a0 a1 a2 a3 a4 a5 a6 a7 F => F (ih a0) (ih a1) (ih a2) (ih a3) (ih a4) (ih a5) (ih a6) (ih a7)) r) k
def sl8 {α : Type} (d : D8) : Bx (F8 α → (α → Bool) → Bool) := D8.rec (motive := fun _ => Bx (F8 α → (α → Bool) → Bool))
  (.mk fun t K => t fun a0 a1 a2 a3 a4 a5 a6 a7 => K a0) (.mk fun t K => t fun a0 a1 a2 a3 a4 a5 a6 a7 => K a1) (.mk fun t K => t fun a0 a1 a2 a3 a4 a5 a6 a7 => K a2) (.mk fun t K => t fun a0 a1 a2 a3 a4 a5 a6 a7 => K a3)
  (.mk fun t K => t fun a0 a1 a2 a3 a4 a5 a6 a7 => K a4) (.mk fun t K => t fun a0 a1 a2 a3 a4 a5 a6 a7 => K a5) (.mk fun t K => t fun a0 a1 a2 a3 a4 a5 a6 a7 => K a6) (.mk fun t K => t fun a0 a1 a2 a3 a4 a5 a6 a7 => K a7) d
abbrev UF (α : Type) := (α → (α → Bool) → Bool) → F8 α → (F8 α → Bool) → Bool
def uc8 {α : Type} (d : D8) : Bx (UF α) := D8.rec (motive := fun _ => Bx (UF α))
  (.mk fun F t K => t fun a0 a1 a2 a3 a4 a5 a6 a7 => F a0 fun v => K fun G => G v a1 a2 a3 a4 a5 a6 a7) (.mk fun F t K => t fun a0 a1 a2 a3 a4 a5 a6 a7 => F a1 fun v => K fun G => G a0 v a2 a3 a4 a5 a6 a7)
  (.mk fun F t K => t fun a0 a1 a2 a3 a4 a5 a6 a7 => F a2 fun v => K fun G => G a0 a1 v a3 a4 a5 a6 a7) (.mk fun F t K => t fun a0 a1 a2 a3 a4 a5 a6 a7 => F a3 fun v => K fun G => G a0 a1 a2 v a4 a5 a6 a7)
  (.mk fun F t K => t fun a0 a1 a2 a3 a4 a5 a6 a7 => F a4 fun v => K fun G => G a0 a1 a2 a3 v a5 a6 a7) (.mk fun F t K => t fun a0 a1 a2 a3 a4 a5 a6 a7 => F a5 fun v => K fun G => G a0 a1 a2 a3 a4 v a6 a7)
  (.mk fun F t K => t fun a0 a1 a2 a3 a4 a5 a6 a7 => F a6 fun v => K fun G => G a0 a1 a2 a3 a4 a5 v a7) (.mk fun F t K => t fun a0 a1 a2 a3 a4 a5 a6 a7 => F a7 fun v => K fun G => G a0 a1 a2 a3 a4 a5 a6 v) d
abbrev RdF (k : Nat) := NF k → (SV → Bool) → Bool
abbrev WrF (k : Nat) := SV → NF k → (NF k → Bool) → Bool
def rdG (i k : Nat) : Bx (RdF k) := Nat.rec (motive := fun k => Bx (RdF k)) (.mk fun v K => K v) (fun k ih => Bx.rec (motive := fun _ => Bx (RdF (k + 1))) (fun g => Bx.rec (motive := fun _ => Bx (RdF (k + 1))) (fun f => .mk fun t K => f t fun u => g u K) (sl8 (dig (Nat.div i (Nat.pow 8 k))))) ih) k
def wrG (i k : Nat) : Bx (WrF k) := Nat.rec (motive := fun k => Bx (WrF k)) (.mk fun v _ K => K v) (fun k ih => Bx.rec (motive := fun _ => Bx (WrF (k + 1))) (fun g => Bx.rec (motive := fun _ => Bx (WrF (k + 1))) (fun f => .mk fun v t K => f (g v) t K) (uc8 (dig (Nat.div i (Nat.pow 8 k))))) ih) k
theorem sl8_ok (k : Nat) (d : D8) : ∃ f, (sl8 d : Bx (F8 (NF k) → (NF k → Bool) → Bool)) = .mk f ∧ ∀ (r : Nest (k + 1) SV) K, f (enc (k + 1) r) K = K (enc k (get8 d r)) := by
  cases d <;> exact ⟨_, rfl, fun r K => by cases r; rfl⟩
theorem uc8_ok (k : Nat) (d : D8) : ∃ f, (uc8 d : Bx (UF (NF k))) = .mk f ∧ ∀ (F : NF k → (NF k → Bool) → Bool) (r : Nest (k + 1) SV) (K : NF (k + 1) → Bool) (v : Nest k SV), (∀ K', F (enc k (get8 d r)) K' = K' (enc k v)) → f F (enc (k + 1) r) K = K (enc (k + 1) (set8 d r v)) := by
  cases d <;> exact ⟨_, rfl, fun F r K v h => by cases r; exact h _⟩
theorem rdG_ok (i : Nat) : ∀ k, ∃ f : RdF k, rdG i k = .mk f ∧ ∀ r K, f (enc k r) K = K (nAt i k r) := by
  intro k
  induction k with
  | zero => exact ⟨_, rfl, fun r K => rfl⟩
  | succ k ih =>
    obtain ⟨g, h1, h2⟩ := ih
    obtain ⟨f, h3, h4⟩ := sl8_ok k (dig (Nat.div i (Nat.pow 8 k)))
    refine ⟨fun t K => f t fun u => g u K, ?_, fun r K => ?_⟩
    · show (Bx.rec (motive := fun _ => Bx (RdF (k + 1))) (fun g => Bx.rec (motive := fun _ => Bx (RdF (k + 1))) (fun f => .mk fun t K => f t fun u => g u K) (sl8 (dig (Nat.div i (Nat.pow 8 k))))) (rdG i k)) = _
      rw [h1, h3]
    · show f (enc (k + 1) r) (fun u => g u K) = _
      rw [h4, h2]; rfl
theorem wrG_ok (i : Nat) : ∀ k, ∃ f : WrF k, wrG i k = .mk f ∧ ∀ v r K, f v (enc k r) K = K (enc k (nSet i v k r)) := by
  intro k
  induction k with
  | zero => exact ⟨_, rfl, fun v r K => rfl⟩
  | succ k ih =>
    obtain ⟨g, h1, h2⟩ := ih
    obtain ⟨f, h3, h4⟩ := uc8_ok k (dig (Nat.div i (Nat.pow 8 k)))
    refine ⟨fun v t K => f (g v) t K, ?_, fun v r K => ?_⟩
    · show (Bx.rec (motive := fun _ => Bx (WrF (k + 1))) (fun g => Bx.rec (motive := fun _ => Bx (WrF (k + 1))) (fun f => .mk fun v t K => f (g v) t K) (uc8 (dig (Nat.div i (Nat.pow 8 k))))) (wrG i k)) = _
      rw [h1, h3]
    · show f (g v) (enc (k + 1) r) K = _
      rw [h4 (g v) r K _ fun K' => h2 v _ K']; rfl
/-! Slots -/
abbrev Tm := NF 3
def TRel (ρ : Nat → Nat) (tm : Tm) (tr : Tr Value) : Prop := ∃ r : Nest 3 SV, tm = enc 3 r ∧ ∀ i, i < 512 → (tr.get i).getD undef = (nAt i 3 r).inst ρ
def gT (i : Nat) (tm : Tm) (K : SV → Bool) : Bool := ifK (Nat.ble (Nat.succ i) 512) (Bx.rec (motive := fun _ => Bool) (fun g => g tm K) (rdG i 3)) false
theorem gT_true {ρ : Nat → Nat} {i : Nat} {tm : Tm} {tr : Tr Value} (hT : TRel ρ tm tr) {K : SV → Bool} (h : gT i tm K = true) : ∃ v, (tr.get i).getD undef = v.inst ρ ∧ K v = true := by
  obtain ⟨h1, h⟩ := ifF_true h
  obtain ⟨r, rfl, hr⟩ := hT
  obtain ⟨f, h2, h3⟩ := rdG_ok i 3
  rw [h2] at h
  have h : f (enc 3 r) K = true := h
  rw [h3] at h
  exact ⟨_, hr i (Nat.le_of_ble_eq_true h1), h⟩
def pT (i : Nat) (v : SV) (tm : Tm) (K : Tm → Bool) : Bool := ifK (Nat.ble (Nat.succ i) 512) (Bx.rec (motive := fun _ => Bool) (fun g => g v tm K) (wrG i 3)) false
theorem pT_true {ρ : Nat → Nat} {i : Nat} {v : SV} {tm : Tm} {tr : Tr Value} (hT : TRel ρ tm tr) {K : Tm → Bool} (h : pT i v tm K = true) : ∃ tm', TRel ρ tm' (tr.put i (some (v.inst ρ))) ∧ K tm' = true := by
  obtain ⟨h1, h⟩ := ifF_true h
  have h1 : i < 512 := Nat.le_of_ble_eq_true h1
  obtain ⟨r, rfl, hr⟩ := hT
  obtain ⟨f, h2, h3⟩ := wrG_ok i 3
  rw [h2] at h
  have h : f v (enc 3 r) K = true := h
  rw [h3] at h
  refine ⟨_, ⟨_, rfl, fun j hj => ?_⟩, h⟩
  have e : (8 : Nat) ^ 3 = 512 := rfl
  rw [nAt_nSet, e, Nat.mod_eq_of_lt hj, Nat.mod_eq_of_lt h1, Tr.get_put]
  by_cases e : j = i
  · subst e; simp
  · rw [if_neg e, if_neg e]; exact hr j hj
def e1 : NF 1 := fun F => F .u .u .u .u .u .u .u .u
def e2 : NF 2 := fun F => F e1 e1 e1 e1 e1 e1 e1 e1
/-- No slot is filled. -/
def e3 : Tm := fun F => F e2 e2 e2 e2 e2 e2 e2 e2
theorem TRel.empty (ρ : Nat → Nat) : TRel ρ e3 .lf := ⟨nRep .u 3, rfl, fun i hi => by rw [nAt_rep]; rfl⟩
/-- The first eight slots are filled. -/
def s3 (a : N8 SV) (K : Tm → Bool) : Bool := N8.rec (motive := fun _ => Bool) (fun a0 a1 a2 a3 a4 a5 a6 a7 => K fun F => F (fun F => F (fun F => F a0 a1 a2 a3 a4 a5 a6 a7) e1 e1 e1 e1 e1 e1 e1) e2 e2 e2 e2 e2 e2 e2) a
def s3d (a : N8 SV) : Nest 3 SV := .mk (.mk a (nRep .u 1) (nRep .u 1) (nRep .u 1) (nRep .u 1) (nRep .u 1) (nRep .u 1) (nRep .u 1)) (nRep .u 2) (nRep .u 2) (nRep .u 2) (nRep .u 2) (nRep .u 2) (nRep .u 2) (nRep .u 2)
theorem s3_eq (a : N8 SV) (K : Tm → Bool) : s3 a K = K (enc 3 (s3d a)) := by cases a; rfl
end
end Go.Ev
/- Values that are not known whole: operands, operations. -/
namespace Go.Ev
open Go
set_option linter.unusedVariables false
set_option linter.unusedSimpArgs false
set_option linter.constructorNameAsVariable false
/-- What is taken for granted of two words, in which order: 0 equal, 1 less. -/
structure Asm where
  c : Nat
  x : W
  y : W
  b : Bool
def Asm.ok (ρ : Nat → Nat) (a : Asm) : Prop := (bif a.c.beq 0 then (evW ρ a.x).beq (evW ρ a.y) else (evW ρ a.x).blt (evW ρ a.y)) = a.b
structure Env where
  P : Program
  T : Tab
  /-- The zeros of great types, as pieces. -/
  zt : TypeId → Option (List (Nat × Z0))
  G : List Asm
  /-- Calls that are told in short. -/
  mac : FuncId → Option (List SV → HT → Nat → KV → Bool)
structure EnvOk (ρ : Nat → Nat) (E : Env) : Prop where
  zt : ∀ e zs, E.zt e = some zs → E.T.zero e = some (.agg ⟨flatZ zs⟩)
  G : ∀ a ∈ E.G, a.ok ρ
  orc : ∀ f l, E.T.orc f l = none
  mac : ∀ g h, E.mac g = some h → ∀ (args : List SV) (t : HT) (m : Nat) (K : KV) (R : Value → Heap → Prop), h args t m K = true →
    (∀ v t' m', K v t' m' = true → R (v.inst ρ) (instH ρ t' m')) → ACall E.P E.T g ⟨instL ρ args⟩ (instH ρ t m) R
/-! Constants -/
def cv0 : Value → Option SV
  | .int k (.ofNat a) => some (.n k a)
  | .int k (.negSucc a) => some (.z k a)
  | .bool true => some .t
  | .bool false => some .f
  | .pointer none => some .np
  | .slice none 0 0 => some .ns
  | .map none => some .nm
  | .nilFunc => some .nf
  | .string s => some (.st (s.data.toList.map fun b => .n .u8 b.toNat))
  | _ => none
def cvL : List Value → Option (List SV)
  | [] => some []
  | v :: l => match cv0 v, cvL l with
    | some s, some r => some (s :: r)
    | _, _ => none
def cv : Value → Option SV
  | .agg ⟨l⟩ => match cvL l with | some r => some (.ag r) | none => none
  | v => cv0 v
theorem cv0_spec (ρ : Nat → Nat) {v : Value} {s : SV} (h : cv0 v = some s) : s.inst ρ = v ∧ plain v = true := by
  unfold cv0 at h
  split at h <;> cases h
  case h_9 s =>
    refine ⟨?_, rfl⟩
    obtain ⟨⟨d⟩⟩ := s
    simp only [SV.inst, List.map_map]
    congr 3
    have : (byteOf ρ ∘ fun b : UInt8 => SV.n .u8 b.toNat) = id := by funext b; simp [byteOf]
    rw [this, List.map_id]
  all_goals exact ⟨rfl, rfl⟩
theorem cvL_spec (ρ : Nat → Nat) : ∀ {l : List Value} {r : List SV}, cvL l = some r → instL ρ r = l ∧ l.all plain = true := by
  intro l
  induction l with
  | nil => intro r h; cases h; exact ⟨rfl, rfl⟩
  | cons v l ih =>
    intro r h
    simp only [cvL] at h
    split at h
    · rename_i s r' h1 h2
      cases h
      obtain ⟨a, b⟩ := cv0_spec ρ h1
      obtain ⟨c, d⟩ := ih h2
      exact ⟨by rw [instL, a, c], by rw [List.all_cons, b, d]; rfl⟩
    · cases h
theorem plain_closed {v : Value} (h : plain v = true) : closed v = true := by
  cases v <;> first | exact h | (simp [plain] at h)
theorem cv_spec (ρ : Nat → Nat) {v : Value} {s : SV} (h : cv v = some s) : s.inst ρ = v ∧ closed v = true := by
  unfold cv at h
  split at h
  · rename_i l
    split at h
    · rename_i r hr
      cases h
      obtain ⟨a, b⟩ := cvL_spec ρ hr
      exact ⟨by rw [SV.inst, a], b⟩
    · cases h
  · obtain ⟨a, b⟩ := cv0_spec ρ h
    exact ⟨a, plain_closed b⟩
/-- Numbers and truths that are known. -/
def litV : SV → Option Value
  | .n k a => some (.int k (.ofNat a))
  | .z k a => some (.int k (.negSucc a))
  | .t => some (.bool true)
  | .f => some (.bool false)
  | _ => none
theorem litV_spec (ρ : Nat → Nat) {s : SV} {v : Value} (h : litV s = some v) : s.inst ρ = v ∧ plain v = true := by
  unfold litV at h
  split at h <;> cases h <;> exact ⟨rfl, rfl⟩
def litL : List SV → Option (List Value)
  | [] => some []
  | v :: l => match litV v, litL l with
    | some s, some r => some (s :: r)
    | _, _ => none
theorem litL_spec (ρ : Nat → Nat) : ∀ {l : List SV} {r : List Value}, litL l = some r → instL ρ l = r ∧ r.all plain = true := by
  intro l
  induction l with
  | nil => intro r h; cases h; exact ⟨rfl, rfl⟩
  | cons v l ih =>
    intro r h
    simp only [litL] at h
    split at h
    · rename_i s r' h1 h2
      cases h
      obtain ⟨a, b⟩ := litV_spec ρ h1
      obtain ⟨c, d⟩ := ih h2
      exact ⟨by rw [instL, a, c], by rw [List.all_cons, b, d]; rfl⟩
    · cases h
noncomputable section
def evK (x : Operand) (tm : Tm) (K : SV → Bool) : Bool :=
  Operand.rec (motive := fun _ => Bool) (fun t => gT t tm K) (fun v => bnd (cv v) K) (fun _ => false) (fun f => K (.fn f [] [])) x
theorem evK_true {ρ : Nat → Nat} {x : Operand} {tm : Tm} {tr : Tr Value} (hT : TRel ρ tm tr) {K : SV → Bool} (h : evK x tm K = true) : ∃ v, aeval tr x = some (v.inst ρ) ∧ K v = true := by
  cases x with
  | tmp t =>
    obtain ⟨v, h1, h2⟩ := gT_true hT h
    exact ⟨v, by simp only [aeval, h1], h2⟩
  | const v =>
    obtain ⟨s, h1, h2⟩ := bnd_true (r := cv v) h
    obtain ⟨a, b⟩ := cv_spec ρ h1
    exact ⟨s, by simp only [aeval, b, cond_true, a], h2⟩
  | global g => cases h
  | func f => exact ⟨.fn f [] [], rfl, h⟩
def evsK (l : List Operand) (tm : Tm) : (List SV → Bool) → Bool := List.rec (motive := fun _ => (List SV → Bool) → Bool) (fun K => K []) (fun x _ ih K => evK x tm fun v => ih fun l => K (v :: l)) l
theorem evsK_true {ρ : Nat → Nat} {tm : Tm} {tr : Tr Value} (hT : TRel ρ tm tr) : ∀ {l : List Operand} {K : List SV → Bool}, evsK l tm K = true → ∃ vs, aevals tr l = some (instL ρ vs) ∧ K vs = true := by
  intro l
  induction l with
  | nil => intro K h; exact ⟨[], rfl, h⟩
  | cons x l ih =>
    intro K h
    obtain ⟨v, h1, h2⟩ := evK_true hT (K := fun v => evsK l tm fun l => K (v :: l)) h
    obtain ⟨vs, h3, h4⟩ := ih h2
    exact ⟨v :: vs, by simp only [aevals, h1, h3, instL], h4⟩
def evpK (l : List (Nat × Operand)) (tm : Tm) : (List (Nat × SV) → Bool) → Bool := List.rec (motive := fun _ => (List (Nat × SV) → Bool) → Bool) (fun K => K []) (fun p _ ih K => evK p.2 tm fun v => ih fun l => K ((p.1, v) :: l)) l
def instP (ρ : Nat → Nat) (l : List (Nat × SV)) : List (Nat × Value) := l.map fun p => (p.1, p.2.inst ρ)
theorem evpK_true {ρ : Nat → Nat} {tm : Tm} {tr : Tr Value} (hT : TRel ρ tm tr) : ∀ {l : List (Nat × Operand)} {K : List (Nat × SV) → Bool}, evpK l tm K = true → ∃ vs, aevalp tr l = some (instP ρ vs) ∧ K vs = true := by
  intro l
  induction l with
  | nil => intro K h; exact ⟨[], rfl, h⟩
  | cons x l ih =>
    intro K h
    obtain ⟨i, x⟩ := x
    obtain ⟨v, h1, h2⟩ := evK_true hT (K := fun v => evpK l tm fun l => K ((i, v) :: l)) h
    obtain ⟨vs, h3, h4⟩ := ih h2
    exact ⟨(i, v) :: vs, by simp only [aevalp, h1, h3]; rfl, h4⟩
def evoK (x : Option Operand) (tm : Tm) (K : Option SV → Bool) : Bool := Option.rec (motive := fun _ => Bool) (K none) (fun x => evK x tm fun v => K (some v)) x
theorem evoK_true {ρ : Nat → Nat} {x : Option Operand} {tm : Tm} {tr : Tr Value} (hT : TRel ρ tm tr) {K : Option SV → Bool} (h : evoK x tm K = true) : ∃ v, aevalo tr x = some (v.map (SV.inst ρ)) ∧ K v = true := by
  cases x with
  | none => exact ⟨none, rfl, h⟩
  | some x =>
    obtain ⟨v, h1, h2⟩ := evK_true hT (K := fun v => K (some v)) h
    exact ⟨some v, by simp only [aevalo, h1, Option.map_some], h2⟩
/-! What an operation answers: a value, memory -/
/-- An operation's value is the evaluator's. -/
def OpV (ρ : Nat → Nat) (E : Env) (tr : Tr Value) (o : Oper) (t : HT) (n : Nat) (K : KV) : Prop :=
  ∃ v t' n', (aop E.P E.T tr o (instH ρ t n) = some (.val (v.inst ρ), instH ρ t' n') ∨ (v = .u ∧ aop E.P E.T tr o (instH ρ t n) = some (.skip, instH ρ t' n'))) ∧ K v t' n' = true
theorem opV {ρ : Nat → Nat} {E : Env} {tr : Tr Value} {o : Oper} {t t' : HT} {n n' : Nat} {K : KV} (v : SV) (ha : aop E.P E.T tr o (instH ρ t n) = some (.val (v.inst ρ), instH ρ t' n')) (hk : K v t' n' = true) : OpV ρ E tr o t n K := ⟨v, t', n', .inl ha, hk⟩
abbrev Hd := Env → Tm → Oper → HT → Nat → KV → Bool
def HdOk (ρ : Nat → Nat) (E : Env) (op : Op) (h : Hd) : Prop := ∀ (tm : Tm) (tr : Tr Value) (_ : TRel ρ tm tr) (o : Oper) (t : HT) (n : Nat) (K : KV), o.op = op → h E tm o t n K = true → OpV ρ E tr o t n K
def hMove (x : Operand) : Hd := fun E tm o t n K => evK x tm fun v => K v t n
theorem hMove_ok (ρ : Nat → Nat) (E : Env) (x : Operand) : HdOk ρ E (.move x) (hMove x) := by
  intro tm tr hT o t n K ho h
  obtain ⟨v, h1, h2⟩ := evK_true hT (K := fun v => K v t n) h
  exact opV v (by unfold aop; simp only [ho, h1, val]) h2
theorem hAssign_ok (ρ : Nat → Nat) (E : Env) (x : Operand) : HdOk ρ E (.assign x) (hMove x) := by
  intro tm tr hT o t n K ho h
  obtain ⟨v, h1, h2⟩ := evK_true hT (K := fun v => K v t n) h
  exact opV v (by unfold aop; simp only [ho, h1, val]) h2
def truK (v : SV) (a b : Bool) : Bool := B4.rec (motive := fun _ => Bool) false a b false (asB v)
theorem truK_true {v : SV} {a b : Bool} (h : truK v a b = true) : (v = .t ∧ a = true) ∨ (v = .f ∧ b = true) := by
  unfold truK at h
  cases ha : asB v with
  | no => rw [ha] at h; cases h
  | u => rw [ha] at h; cases h
  | t => rw [ha] at h; exact .inl ⟨asB_t ha, h⟩
  | f => rw [ha] at h; exact .inr ⟨asB_f ha, h⟩
def pickJ (c u v : SV) (K : SV → Bool) : Bool := truK c (K u) (K v)
def notJ (v : SV) (K : SV → Bool) : Bool := truK v (K .f) (K .t)
def hPick (c a b : Operand) : Hd := fun E tm o t n K => evK c tm fun vc => evK a tm fun u => evK b tm fun v => pickJ vc u v fun s => K s t n
theorem hPick_ok (ρ : Nat → Nat) (E : Env) (c a b : Operand) : HdOk ρ E (.pick c a b) (hPick c a b) := by
  intro tm tr hT o t n K ho h
  obtain ⟨vc, h1, h⟩ := evK_true hT h
  obtain ⟨u, h2, h⟩ := evK_true hT h
  obtain ⟨v, h3, h⟩ := evK_true hT h
  unfold pickJ at h
  rcases truK_true h with ⟨rfl, k⟩ | ⟨rfl, k⟩
  · exact opV u (by unfold aop; simp only [ho, h1, h2, h3, SV.inst, cond_true]) k
  · exact opV v (by unfold aop; simp only [ho, h1, h2, h3, SV.inst, cond_false]) k
def cellsV (v : SV) : List SV := match v with
  | .ag l => l
  | .big zs => baseL (Z0.ps zs)
  | v => [v]
theorem cellsV_inst (ρ : Nat → Nat) (v : SV) : (v.inst ρ).cells.toList = (cellsV v).map (SV.inst ρ) := by
  cases v
  case big zs => exact flatZ_inst ρ zs
  all_goals simp [SV.inst, cellsV, Value.cells, instL_map, undef]
/-- A type's zeros. -/
def zeroCs (E : Env) (e : TypeId) : Option Cs := match E.zt e with
  | some zs => some (.tr (Z0.ps zs) .lf)
  | none => match E.T.zero e with
    | some z => match cv z with
      | some s => some (tabC (cellsV s))
      | none => none
    | none => none
theorem closed_flat (zs : List (Nat × Z0)) : closed (.agg ⟨flatZ zs⟩) = true := by
  show (flatZ zs).all plain = true
  induction zs with
  | nil => rfl
  | cons p r ih =>
    have e1 : flatZ (p :: r) = List.replicate p.1 p.2.val ++ flatZ r := rfl
    rw [e1, List.all_append, ih, Bool.and_true, List.all_eq_true]
    intro v hv
    rw [(List.mem_replicate.1 hv).2]
    cases p.2 <;> rfl
theorem mapIdx_self {α : Type} : ∀ (l : List α), (l.mapIdx fun _ d => d) = l := by
  intro l
  induction l with
  | nil => rfl
  | cons a l ih => rw [List.mapIdx_cons, ih]
theorem zeroCs_spec {ρ : Nat → Nat} {E : Env} (hE : EnvOk ρ E) {e : TypeId} {c : Cs} (h : zeroCs E e = some c) : ∃ z, E.T.zero e = some z ∧ closed z = true ∧ z.cells.toList = c.toL.map (SV.inst ρ) := by
  unfold zeroCs at h
  split at h
  · rename_i zs hz
    cases h
    refine ⟨_, hE.zt e zs hz, closed_flat zs, ?_⟩
    show flatZ zs = _
    rw [flatZ_inst ρ]
    congr 1
    show _ = (baseL (Z0.ps zs)).mapIdx fun i d => ((Tr.lf : Tr SV).get i).getD d
    exact (mapIdx_self _).symm
  · split at h
    · rename_i z hz
      split at h
      · rename_i s hs
        cases h
        obtain ⟨a, b⟩ := cv_spec ρ hs
        exact ⟨z, hz, b, by rw [← a, cellsV_inst, tabC_toL]⟩
      · cases h
    · cases h
def alJ (E : Env) (e : TypeId) (t : HT) (n : Nat) (K : KV) : Bool := bnd (zeroCs E e) fun c => pushK ⟨c, e, false⟩ (.p n 0) t n K
def hAlloc (e : TypeId) : Hd := fun E tm o t n K => alJ E e t n K
theorem hAlloc_ok {ρ : Nat → Nat} {E : Env} (hE : EnvOk ρ E) (e : TypeId) : HdOk ρ E (.alloc e) (hAlloc e) := by
  intro tm tr hT o t n K ho h
  obtain ⟨c, h1, h⟩ := bnd_true (r := zeroCs E e) h
  obtain ⟨t', ht, h⟩ := pushK_true h
  obtain ⟨z, z1, z2, z3⟩ := zeroCs_spec hE h1
  refine opV (.p n 0) (t' := t') (n' := n + 1) ?_ h
  unfold aop
  simp only [ho, z1, z2, cond_true, ht, SOb.inst, z3, SV.inst]
  rfl
def boxK (v : SV) (K : Cs → Bool) : Bool := match v with
  | .big zs => K (.tr (Z0.ps zs) .lf)
  | .ag l => mkC l K
  | v => K (.a 1 (w4 (.mk v .u .u .u .u .u .u .u)))
theorem boxK_true {v : SV} {K : Cs → Bool} (h : boxK v K = true) : ∃ c, c.toL = cellsV v ∧ K c = true := by
  unfold boxK at h
  split at h
  · rename_i zs
    exact ⟨.tr (Z0.ps zs) .lf, (mapIdx_self (baseL (Z0.ps zs)) : _), h⟩
  · exact mkC_true h
  · rename_i h1 h2
    refine ⟨_, ?_, h⟩
    have e : cellsV v = [v] := by
      cases v <;> first | rfl | exact absurd rfl (h1 _) | exact absurd rfl (h2 _)
    rw [e]; rfl
def hBox (e : TypeId) (x : Operand) : Hd := fun E tm o t n K => evK x tm fun v => boxK v fun c => pushK ⟨c, e, false⟩ (.p n 0) t n K
theorem hBox_ok (ρ : Nat → Nat) (E : Env) (e : TypeId) (x : Operand) : HdOk ρ E (.box e x) (hBox e x) := by
  intro tm tr hT o t n K ho h
  obtain ⟨v, h1, h⟩ := evK_true hT h
  obtain ⟨c, h2, h⟩ := boxK_true h
  obtain ⟨t', ht, h⟩ := pushK_true h
  refine opV (.p n 0) (t' := t') (n' := n + 1) ?_ h
  unfold aop
  simp only [ho, h1, ht, SOb.inst, cellsV_inst, h2, SV.inst]
  rfl
/-! Memory -/
def ptrK (v : SV) (K : Nat → Nat → Bool) : Bool := Pp.rec (motive := fun _ => Bool) false (fun b o => K b o) (asP v)
theorem ptrK_true {v : SV} {K : Nat → Nat → Bool} (h : ptrK v K = true) : ∃ b o, v = .p b o ∧ K b o = true := by
  unfold ptrK at h
  cases ha : asP v with
  | no => rw [ha] at h; cases h
  | yes b o => rw [ha] at h; exact ⟨b, o, asP_yes ha, h⟩
def ldI (T : Tab) (t : TypeId) : Option (Bool × Nat) := match T.under t, T.size t with
  | some d, some n => some (isRow d, n)
  | _, _ => none
theorem ldI_spec {T : Tab} {t : TypeId} {r : Bool} {n : Nat} (h : ldI T t = some (r, n)) : ∃ d, T.under t = some d ∧ T.size t = some n ∧ isRow d = r := by
  unfold ldI at h
  split at h
  · rename_i d m h1 h2; cases h; exact ⟨d, h1, h2, rfl⟩
  · cases h
def rdK (c : Cs) (off : Nat) (p : Bool × Nat) (K : SV → Bool) : Bool := Prod.rec (motive := fun _ => Bool) (fun r n => Bool.rec (motive := fun _ => Bool) (cgK c off K) (crK c off n fun l => K (.ag l)) r) p
def ldK (T : Tab) (ty : TypeId) (v : SV) (t : HT) (K : SV → Bool) : Bool := ptrK v fun b off => bnd (ldI T ty) fun p => obK b t fun c e r => rdK c off p K
theorem ldK_true (ρ : Nat → Nat) {T : Tab} {ty : TypeId} {v : SV} {t : HT} {n : Nat} {K : SV → Bool} (h : ldK T ty v t K = true) : ∃ u, aload T ty (v.inst ρ) (instH ρ t n) = some (u.inst ρ) ∧ K u = true := by
  obtain ⟨b, off, rfl, h⟩ := ptrK_true h
  obtain ⟨⟨r, m⟩, h1, h⟩ := bnd_true (r := ldI T ty) h
  obtain ⟨c, e, ro, h2, h⟩ := obK_true h
  obtain ⟨d, g1, g2, g3⟩ := ldI_spec h1
  simp only [SV.inst, aload, h2 ρ n, g1, g2, g3]
  cases r
  · obtain ⟨u, k1, k2⟩ := cgK_true (c := c) (i := off) h
    exact ⟨u, by simp only [cond_false, List.getElem?_map, k1, Option.map_some], k2⟩
  · obtain ⟨k1, k2⟩ := crK_true (c := c) (i := off) (n := m) (K := fun l => K (.ag l)) h
    refine ⟨_, ?_, k2⟩
    have e1 : ((c.toL.map (SV.inst ρ)).drop off).take m = ((c.toL.drop off).take m).map (SV.inst ρ) := by rw [List.map_take, List.map_drop]
    simp only [cond_true, e1, List.length_map, k1, Nat.beq_refl, SV.inst, instL_map]
def hLoad (ty : TypeId) (a : Operand) : Hd := fun E tm o t n K => evK a tm fun v => ldK E.T ty v t fun u => K u t n
theorem hLoad_ok (ρ : Nat → Nat) (E : Env) (ty : TypeId) (a : Operand) : HdOk ρ E (.load ty a) (hLoad ty a) := by
  intro tm tr hT o t n K ho h
  obtain ⟨v, h1, h⟩ := evK_true hT h
  obtain ⟨u, h2, h⟩ := ldK_true ρ (n := n) h
  exact opV u (by unfold aop; simp only [ho, h1, h2, val]) h
def oneK (v : SV) (K : Bool) : Bool := ifK (isOne v) K false
theorem oneK_true (ρ : Nat → Nat) {v : SV} {K : Bool} (h : oneK v K = true) : one (v.inst ρ) = true ∧ K = true := by
  cases v <;> first | exact ⟨rfl, h⟩ | (cases h; done)
def onesK (l : List SV) (K : Bool) : Bool := List.rec (motive := fun _ => Bool) K (fun v _ ih => oneK v ih) l
theorem onesK_true (ρ : Nat → Nat) {l : List SV} {K : Bool} (h : onesK l K = true) : (l.map (SV.inst ρ)).all one = true ∧ K = true := by
  induction l with
  | nil => exact ⟨rfl, h⟩
  | cons v l ih =>
    obtain ⟨h1, h2⟩ := oneK_true ρ (K := onesK l K) h
    obtain ⟨h3, h4⟩ := ih h2
    exact ⟨by rw [List.map_cons, List.all_cons, h1, h3]; rfl, h4⟩
/-- Cells into a block. -/
def putK (b off : Nat) (vs : List SV) (t : HT) (K : HT → Bool) : Bool := obK b t fun c e r => Bool.rec (motive := fun _ => Bool) (onesK vs (cgz c off (cwK vs off c fun c => hpK b (some ⟨c, e, false⟩) t K))) false r
where cgz (c : Cs) (off : Nat) (K : Bool) : Bool := List.rec (motive := fun _ => Bool) false (fun _ _ _ => cgK c off fun _ => K) vs
theorem putK_true (ρ : Nat → Nat) {b off : Nat} {vs : List SV} {t : HT} {n : Nat} {K : HT → Bool} (h : putK b off vs t K = true) : ∃ t', aput b off (vs.map (SV.inst ρ)) (instH ρ t n) = some (instH ρ t' n) ∧ K t' = true := by
  obtain ⟨c, e, r, h1, h⟩ := obK_true h
  cases r
  · obtain ⟨h2, h⟩ := onesK_true ρ h
    have h3 : off ≤ c.toL.length ∧ cwK vs off c (fun c => hpK b (some ⟨c, e, false⟩) t K) = true := by
      cases vs with
      | nil => cases h
      | cons v vs =>
        obtain ⟨u, g1, g2⟩ := cgK_true (c := c) (i := off) (K := fun _ => cwK (v :: vs) off c (fun c => hpK b (some ⟨c, e, false⟩) t K)) (show cgK c off (fun _ => cwK (v :: vs) off c (fun c => hpK b (some ⟨c, e, false⟩) t K)) = true from h)
        exact ⟨Nat.le_of_lt (List.getElem?_eq_some_iff.1 g1).1, g2⟩
    obtain ⟨c', k1, k2, k3⟩ := cwK_true h3.2 h3.1
    obtain ⟨t', k4, k3⟩ := hpK_true k3
    refine ⟨t', ?_, k3⟩
    have hl : (off + (vs.map (SV.inst ρ)).length).ble (c.toL.map (SV.inst ρ)).length = true := Nat.ble_eq_true_of_le (by simpa using k2)
    simp only [aput, h1 ρ n, h2, hl, Bool.not_false, Bool.and_self, cond_true, k4, SOb.inst, k1]
    congr 3
    rw [splice_eq _ _ _ (by simpa using k2)]
    simp [List.map_take, List.map_drop]
  · cases h
def lenK {α : Type} (l : List α) (n : Nat) (K : Bool) : Bool := List.rec (motive := fun _ => Nat → Bool) (fun n => Nat.rec (motive := fun _ => Bool) K (fun _ _ => false) n) (fun _ _ ih n => Nat.rec (motive := fun _ => Bool) false (fun m _ => ih m) n) l n
theorem lenK_true {α : Type} {l : List α} : ∀ {n : Nat} {K : Bool}, lenK l n K = true → l.length = n ∧ K = true := by
  induction l with
  | nil =>
    intro n K h
    cases n with
    | zero => exact ⟨rfl, h⟩
    | succ n => cases h
  | cons a l ih =>
    intro n K h
    cases n with
    | zero => cases h
    | succ n => obtain ⟨h1, h2⟩ := ih (n := n) h; exact ⟨by rw [List.length_cons, h1], h2⟩
def stK (T : Tab) (ty : TypeId) (v u : SV) (t : HT) (K : HT → Bool) : Bool := ptrK v fun b off => bnd (T.size ty) fun m => lenK (cellsV u) m (putK b off (cellsV u) t K)
theorem stK_true (ρ : Nat → Nat) {T : Tab} {ty : TypeId} {v u : SV} {t : HT} {n : Nat} {K : HT → Bool} (h : stK T ty v u t K = true) : ∃ t', astore T ty (v.inst ρ) (u.inst ρ) (instH ρ t n) = some (instH ρ t' n) ∧ K t' = true := by
  obtain ⟨b, off, rfl, h⟩ := ptrK_true h
  obtain ⟨m, h1, h⟩ := bnd_true (r := T.size ty) h
  obtain ⟨h2, h⟩ := lenK_true h
  obtain ⟨t', h3, h⟩ := putK_true ρ (n := n) h
  refine ⟨t', ?_, h⟩
  have hs : (u.inst ρ).cells.size.beq m = true := by
    rw [← Array.length_toList, cellsV_inst, List.length_map, h2]; simp
  simp only [SV.inst, astore, h1, hs, cond_true, cellsV_inst, h3]
def hStore (ty : TypeId) (a x : Operand) : Hd := fun E tm o t n K => evK a tm fun v => evK x tm fun u => stK E.T ty v u t fun t => K .u t n
theorem hStore_ok (ρ : Nat → Nat) (E : Env) (ty : TypeId) (a x : Operand) : HdOk ρ E (.store ty a x) (hStore ty a x) := by
  intro tm tr hT o t n K ho h
  obtain ⟨v, h1, h⟩ := evK_true hT h
  obtain ⟨u, h2, h⟩ := evK_true hT h
  obtain ⟨t', h3, h⟩ := stK_true ρ (n := n) h
  exact ⟨.u, t', n, .inr ⟨rfl, by unfold aop; simp only [ho, h1, h2, h3, skp]⟩, h⟩
def nilcK (v : SV) (K : Bool) : Bool := ifK (isNc v) K false
def hNil (x : Operand) : Hd := fun E tm o t n K => evK x tm fun v => nilcK v (K v t n)
theorem hNil_ok (ρ : Nat → Nat) (E : Env) (x : Operand) : HdOk ρ E (.nilCheck x) (hNil x) := by
  intro tm tr hT o t n K ho h
  obtain ⟨v, h1, h⟩ := evK_true hT h
  obtain ⟨hn, h⟩ := ifF_true h
  cases v <;> first | (cases hn; done) | exact opV _ (by unfold aop; simp only [ho, h1, SV.inst]) h
def fieldOff (T : Tab) (s : TypeId) (f : Nat) : Option Nat := match T.under s with
  | some (.struct fields) => match fields[f]? with
    | some fd => match T.size fd.type with
      | some (_ + 1) => some fd.offset
      | _ => none
    | none => none
  | _ => none
def faJ (E : Env) (s : TypeId) (f : Nat) (v : SV) (K : SV → Bool) : Bool := ptrK v fun b off => bnd (fieldOff E.T s f) fun k => fN (Nat.add off k) fun q => K (.p b q)
def hFieldAddr (s : TypeId) (x : Operand) (f : Nat) : Hd := fun E tm o t n K => evK x tm fun v => faJ E s f v fun u => K u t n
theorem hFieldAddr_ok (ρ : Nat → Nat) (E : Env) (s : TypeId) (x : Operand) (f : Nat) : HdOk ρ E (.fieldAddr s x f) (hFieldAddr s x f) := by
  intro tm tr hT o t n K ho h
  obtain ⟨v, h1, h⟩ := evK_true hT h
  obtain ⟨b, off, rfl, h⟩ := ptrK_true h
  obtain ⟨k, h2, h⟩ := bnd_true (r := fieldOff E.T s f) h
  rw [fN_eq] at h
  refine opV (.p b (off + k)) ?_ h
  unfold fieldOff at h2
  split at h2
  · rename_i fields hu
    split at h2
    · rename_i fd hf
      split at h2
      · rename_i hs
        cases h2
        unfold aop
        simp only [ho, h1, SV.inst, afield, hu, hf, hs, val]
      · cases h2
    · cases h2
  · cases h2
def fieldPl (T : Tab) (t : TypeId) (f : Nat) : Option (Nat × Bool × Nat) := match T.under t with
  | some (.struct fields) => match fields[f]? with
    | some fd => match ldI T fd.type with
      | some p => some (fd.offset, p)
      | none => none
    | none => none
  | _ => none
def aggK (v : SV) (K : List SV → Bool) : Bool := bnd (asA v) K
theorem aggK_true {v : SV} {K : List SV → Bool} (h : aggK v K = true) : ∃ l, v = .ag l ∧ K l = true := by
  obtain ⟨l, h1, h2⟩ := bnd_true (r := asA v) h
  exact ⟨l, asA_some h1, h2⟩
def apK (l : List SV) (off : Nat) (p : Bool × Nat) (K : SV → Bool) : Bool := Prod.rec (motive := fun _ => Bool) (fun r n => Bool.rec (motive := fun _ => Bool) (nthK l off K) (dropK off l fun l => takeK n l fun l => K (.ag l)) r) p
theorem apK_true (ρ : Nat → Nat) {T : Tab} {ty : TypeId} {l : List SV} {off : Nat} {p : Bool × Nat} {K : SV → Bool} (hp : ldI T ty = some p) (h : apK l off p K = true) : ∃ u, apart T ty ⟨instL ρ l⟩ off = some (u.inst ρ) ∧ K u = true := by
  obtain ⟨r, m⟩ := p
  obtain ⟨d, g1, g2, g3⟩ := ldI_spec hp
  simp only [apart, g1, g2, g3]
  cases r
  · obtain ⟨u, k1, k2⟩ := nthK_true (l := l) (n := off) h
    exact ⟨u, by simp only [cond_false, List.getElem?_toArray, instL_map, List.getElem?_map, k1, Option.map_some], k2⟩
  · have h : dropK off l (fun l => takeK m l fun l => K (.ag l)) = true := h
    rw [dropK_eq] at h
    obtain ⟨k1, k2⟩ := takeK_true m (K := fun l => K (.ag l)) h
    refine ⟨_, ?_, k2⟩
    simp only [cond_true, SV.inst, instL_map]
    congr 2
    rw [← Array.toList_inj]
    simp [List.map_take, List.map_drop]
def fdJ (E : Env) (ty : TypeId) (f : Nat) (v : SV) (K : SV → Bool) : Bool := aggK v fun l => bnd (fieldPl E.T ty f) fun q => Prod.rec (motive := fun _ => Bool) (fun off p => apK l off p K) q
def hField (ty : TypeId) (x : Operand) (f : Nat) : Hd := fun E tm o t n K => evK x tm fun v => fdJ E ty f v fun u => K u t n
theorem hField_ok (ρ : Nat → Nat) (E : Env) (ty : TypeId) (x : Operand) (f : Nat) : HdOk ρ E (.field ty x f) (hField ty x f) := by
  intro tm tr hT o t n K ho h
  obtain ⟨v, h1, h⟩ := evK_true hT h
  obtain ⟨l, rfl, h⟩ := aggK_true h
  obtain ⟨⟨off, p⟩, h2, h⟩ := bnd_true (r := fieldPl E.T ty f) h
  unfold fieldPl at h2
  split at h2
  · rename_i fields hu
    split at h2
    · rename_i fd hf
      split at h2
      · rename_i p' hp
        cases h2
        obtain ⟨u, k1, k2⟩ := apK_true ρ hp h
        exact opV u (by unfold aop; simp only [ho, h1, SV.inst, hu, hf, k1, val]) k2
      · cases h2
    · cases h2
  · cases h2
def extK (v : SV) (K : List SV → Bool) : Bool := bnd (asU v) K
def exJ (i : Nat) (v : SV) (K : SV → Bool) : Bool := extK v fun l => nthK l i K
def hExtract (x : Operand) (i : Nat) : Hd := fun E tm o t n K => evK x tm fun v => exJ i v fun u => K u t n
theorem hExtract_ok (ρ : Nat → Nat) (E : Env) (x : Operand) (i : Nat) : HdOk ρ E (.extract x i) (hExtract x i) := by
  intro tm tr hT o t n K ho h
  obtain ⟨v, h1, h⟩ := evK_true hT h
  obtain ⟨l, hl, h⟩ := bnd_true (r := asU v) h
  obtain rfl := asU_some hl
  obtain ⟨u, k1, k2⟩ := nthK_true (l := l) (n := i) h
  exact opV u (by unfold aop; simp only [ho, h1, SV.inst, List.getElem?_toArray, instL_map, List.getElem?_map, k1, Option.map_some, val]) k2
def hNot (x : Operand) : Hd := fun E tm o t n K => evK x tm fun v => notJ v fun s => K s t n
theorem hNot_ok (ρ : Nat → Nat) (E : Env) (ty : TypeId) (x : Operand) : HdOk ρ E (.unOp .not ty x) (hNot x) := by
  intro tm tr hT o t n K ho h
  obtain ⟨v, h1, h⟩ := evK_true hT h
  unfold notJ at h
  rcases truK_true h with ⟨rfl, k⟩ | ⟨rfl, k⟩
  · exact opV .f (by unfold aop; simp only [ho, h1, SV.inst]; rfl) k
  · exact opV .t (by unfold aop; simp only [ho, h1, SV.inst]; rfl) k
def hMakeFunc (fn : Fn) (fs cs : Array Operand) : Hd := fun E tm o t n K => match fn with
  | .func g => evsK fs.toList tm fun l => evsK cs.toList tm fun k => K (.fn g l k) t n
  | _ => false
theorem hMakeFunc_ok (ρ : Nat → Nat) (E : Env) (fn : Fn) (fs cs : Array Operand) : HdOk ρ E (.makeFunc fn fs cs) (hMakeFunc fn fs cs) := by
  intro tm tr hT o t n K ho h
  unfold hMakeFunc at h
  split at h
  · rename_i g
    obtain ⟨l, h1, h⟩ := evsK_true hT h
    obtain ⟨k, h2, h⟩ := evsK_true hT h
    exact opV (.fn g l k) (by unfold aop; simp only [ho, h1, h2, SV.inst]) h
  · cases h
end
end Go.Ev
/- Numbers that are not known: what an operation makes of two of them. -/
namespace Go.Ev
open Go
set_option linter.unusedVariables false
set_option linter.unusedSimpArgs false
set_option linter.constructorNameAsVariable false
def litOf : W → Option Nat
  | [] => some 0
  | [.k n w] => some (n % 2 ^ w)
  | _ => none
theorem litOf_ev (ρ : Nat → Nat) {x : W} {a : Nat} (h : litOf x = some a) : evW ρ x = a := by
  unfold litOf at h
  split at h
  · cases h; rfl
  · cases h; simp [evW, Seg.val]
  · cases h
def mkI (k : IntKind) (x : W) : SV := match litOf x with
  | some a => .n k a
  | none => .w k x
theorem mkI_inst (ρ : Nat → Nat) (k : IntKind) (x : W) : (mkI k x).inst ρ = .int k (Int.ofNat (evW ρ x)) := by
  unfold mkI
  cases h : litOf x with
  | none => rfl
  | some a => rw [litOf_ev ρ h]; rfl
def wOf : SV → Option (IntKind × W)
  | .n k a => some (k, litW a)
  | .w k x => some (k, x)
  | _ => none
theorem wOf_inst (ρ : Nat → Nat) {v : SV} {k : IntKind} {x : W} (h : wOf v = some (k, x)) : v.inst ρ = .int k (Int.ofNat (evW ρ x)) := by
  unfold wOf at h
  split at h <;> cases h
  · rw [litW_ev]; rfl
  · rfl
/-- How far a kind's numbers go. -/
def lim (k : IntKind) : Nat := match k with
  | .i8 => 128 | .i16 => 32768 | .i32 => 2147483648 | .i64 => 9223372036854775808
  | .u8 => 256 | .u16 => 65536 | .u32 => 4294967296 | .u64 => 18446744073709551616
theorem lim_le (k : IntKind) : lim k ≤ 2 ^ k.bits := by cases k <;> decide
theorem wrap_lim {k : IntKind} {a : Nat} (h : a < lim k) : k.wrap (Int.ofNat a) = Int.ofNat a := by
  cases k <;> simp only [lim] at h <;> simp [IntKind.wrap, IntKind.bits, IntKind.signed] <;> omega
theorem wrap_uns {k : IntKind} (hk : k.signed = false) (a : Nat) : k.wrap (Int.ofNat a) = Int.ofNat (a % 2 ^ k.bits) := by
  cases k <;> simp [IntKind.signed] at hk <;> simp [IntKind.wrap, IntKind.bits, IntKind.signed]
theorem wrap_pos {k : IntKind} (hk : k.signed = false) (z : Int) : 0 ≤ k.wrap z ∧ k.wrap z < 2 ^ k.bits := by
  cases k <;> simp [IntKind.signed] at hk <;> simp [IntKind.wrap, IntKind.bits, IntKind.signed] <;> omega
def wrapW (k : IntKind) (x : W) : Option W := bif k.signed then (bif Nat.blt (hiW x) (lim k) then some x else none) else some (takeW k.bits x)
theorem blt_lt {a b : Nat} (h : Nat.blt a b = true) : a < b := Nat.le_of_ble_eq_true h
theorem wrapW_ev (ρ : Nat → Nat) {k : IntKind} {x q : W} (h : wrapW k x = some q) : k.wrap (Int.ofNat (evW ρ x)) = Int.ofNat (evW ρ q) := by
  unfold wrapW at h
  cases hs : k.signed <;> rw [hs] at h
  · cases h
    rw [wrap_uns hs, takeW_ev]
  · simp only [cond_true] at h
    cases hb : Nat.blt (hiW x) (lim k) <;> rw [hb] at h <;> cases h
    exact wrap_lim (Nat.lt_of_le_of_lt (boundsW ρ x).2 (blt_lt hb))
/-! Which is less? Are they the same? -/
def asmF (c : Nat) (x y : W) : List Asm → Option Bool
  | [] => none
  | a :: r => bif a.c.beq c && (wEq a.x x && wEq a.y y) then some a.b else asmF c x y r
theorem asmF_spec {ρ : Nat → Nat} {c : Nat} {x y : W} : ∀ {G : List Asm} {b : Bool}, asmF c x y G = some b → (∀ a ∈ G, a.ok ρ) → (⟨c, x, y, b⟩ : Asm).ok ρ := by
  intro G
  induction G with
  | nil => intro b h; cases h
  | cons a r ih =>
    intro b h hG
    simp only [asmF] at h
    cases hb : a.c.beq c && (wEq a.x x && wEq a.y y) <;> rw [hb] at h
    · exact ih h fun q hq => hG q (List.mem_cons_of_mem _ hq)
    · cases h
      simp only [Bool.and_eq_true, Nat.beq_eq] at hb
      obtain ⟨h1, h2, h3⟩ := hb
      have := hG a List.mem_cons_self
      obtain ⟨c', x', y', b'⟩ := a
      simp only at h1 h2 h3
      obtain rfl := h1; obtain rfl := wEq_sound _ _ h2; obtain rfl := wEq_sound _ _ h3
      exact this
def ltW (G : List Asm) (x y : W) : Option Bool :=
  bif Nat.blt (hiW x) (loW y) then some true else bif Nat.ble (hiW y) (loW x) then some false else bif wEq x y then some false else asmF 1 x y G
theorem ltW_spec {ρ : Nat → Nat} {G : List Asm} {x y : W} {b : Bool} (hG : ∀ a ∈ G, a.ok ρ) (h : ltW G x y = some b) : decide (evW ρ x < evW ρ y) = b := by
  have hx := boundsW ρ x
  have hy := boundsW ρ y
  unfold ltW at h
  cases h1 : Nat.blt (hiW x) (loW y) <;> rw [h1] at h
  · cases h2 : Nat.ble (hiW y) (loW x) <;> rw [h2] at h
    · cases h3 : wEq x y <;> rw [h3] at h
      · have := asmF_spec h hG
        simp only [Asm.ok] at this
        rw [← this]
        show decide _ = Nat.blt _ _
        cases hb : Nat.blt (evW ρ x) (evW ρ y)
        · exact decide_eq_false fun q => by rw [show Nat.blt (evW ρ x) (evW ρ y) = true from Nat.ble_eq_true_of_le q] at hb; cases hb
        · exact decide_eq_true (blt_lt hb)
      · cases h
        rw [wEq_sound _ _ h3]; simp
    · cases h
      have := Nat.le_of_ble_eq_true h2
      exact decide_eq_false (by omega)
  · cases h
    have := blt_lt h1
    exact decide_eq_true (by omega)
def orO (a b : Option Bool) : Option Bool := match a with | some x => some x | none => b
def eqW (G : List Asm) (x y : W) : Option Bool :=
  bif wEq x y then some true else bif Nat.blt (hiW x) (loW y) || (Nat.blt (hiW y) (loW x) || difF 200 x y) then some false else orO (asmF 0 x y G) (asmF 0 y x G)
theorem eqW_spec {ρ : Nat → Nat} {G : List Asm} {x y : W} {b : Bool} (hG : ∀ a ∈ G, a.ok ρ) (h : eqW G x y = some b) : decide (evW ρ x = evW ρ y) = b := by
  have hx := boundsW ρ x
  have hy := boundsW ρ y
  have key : ∀ {p q : W} {b : Bool}, asmF 0 p q G = some b → decide (evW ρ p = evW ρ q) = b := fun {p q b} h => by
    have := asmF_spec h hG
    simp only [Asm.ok] at this
    rw [← this]
    show decide _ = Nat.beq _ _
    cases hb : Nat.beq (evW ρ p) (evW ρ q)
    · exact decide_eq_false (Nat.ne_of_beq_eq_false hb)
    · exact decide_eq_true (Nat.eq_of_beq_eq_true hb)
  unfold eqW at h
  cases h3 : wEq x y <;> rw [h3] at h
  · cases h1 : Nat.blt (hiW x) (loW y) || (Nat.blt (hiW y) (loW x) || difF 200 x y) <;> rw [h1] at h
    · simp only [cond_false, orO] at h
      cases ha : asmF 0 x y G with
      | some b' => rw [ha] at h; cases h; exact key ha
      | none =>
        rw [ha] at h
        have := key h
        rw [← this]
        simp only [eq_comm]
    · cases h
      simp only [Bool.or_eq_true] at h1
      refine decide_eq_false ?_
      rcases h1 with h1 | h1 | h1
      · have := blt_lt h1; omega
      · have := blt_lt h1; omega
      · exact difF_sound ρ _ _ _ h1
  · cases h
    rw [wEq_sound _ _ h3]; simp
def bSV (b : Bool) : SV := bif b then .t else .f
theorem bSV_inst (ρ : Nat → Nat) (b : Bool) : (bSV b).inst ρ = .bool b := by cases b <;> rfl
/-! The operations -/
/-- An operation whose answer is not told in short. -/
def gW (op : BinOp) (k : IntKind) (x y : W) : SV := .w k [.g op k x y 0 k.bits]
theorem gW_inst (ρ : Nat → Nat) {op : BinOp} {k : IntKind} {x y : W} {z : Int} (h : (bif isShift op then ishift op k (Int.ofNat (evW ρ x)) (Int.ofNat (evW ρ y)) else ibin op k (Int.ofNat (evW ρ x)) (Int.ofNat (evW ρ y))) = some (.int k z)) (h0 : 0 ≤ z) (h1 : z < 2 ^ k.bits) :
    (gW op k x y).inst ρ = .int k z := by
  have : gZ op k (evW ρ x) (evW ρ y) = z := by
    unfold gZ
    rw [show ((evW ρ x : Nat) : Int) = Int.ofNat (evW ρ x) from rfl, show ((evW ρ y : Nat) : Int) = Int.ofNat (evW ρ y) from rfl, h]
  simp only [gW, SV.inst, evW, Seg.val, this, Nat.pow_zero, Nat.div_one, Nat.mul_zero, Nat.add_zero]
  congr 1
  have h2 : z.toNat < 2 ^ k.bits := by
    have : ((2 : Int) ^ k.bits) = ((2 ^ k.bits : Nat) : Int) := by simp
    rw [this] at h1
    omega
  rw [Nat.mod_eq_of_lt h2]
  show ((z.toNat : Nat) : Int) = z
  omega
/-- Two to which power? -/
def pow2 (a : Nat) : Option Nat := bif a.beq 0 then none else bif (2 ^ a.log2).beq a then some a.log2 else none
theorem pow2_spec {a n : Nat} (h : pow2 a = some n) : a = 2 ^ n := by
  unfold pow2 at h
  cases h1 : a.beq 0 <;> rw [h1] at h
  · cases h2 : (2 ^ a.log2).beq a <;> rw [h2] at h <;> cases h
    exact (Nat.eq_of_beq_eq_true h2).symm
  · cases h
def litP (x : W) : Option Nat := match litOf x with | some a => pow2 a | none => none
theorem litP_spec (ρ : Nat → Nat) {x : W} {n : Nat} (h : litP x = some n) : evW ρ x = 2 ^ n := by
  unfold litP at h
  split at h
  · rename_i a ha; rw [litOf_ev ρ ha]; exact pow2_spec h
  · cases h
def outW (k : IntKind) (r : Option W) : Option SV := match r with
  | some q => match wrapW k q with
    | some q => some (mkI k q)
    | none => none
  | none => none
theorem outW_inst (ρ : Nat → Nat) {k : IntKind} {r : Option W} {s : SV} {a : Nat} (h : outW k r = some s) (ha : ∀ q, r = some q → evW ρ q = a) : s.inst ρ = .int k (k.wrap (Int.ofNat a)) := by
  unfold outW at h
  split at h
  · rename_i q
    split at h
    · rename_i q' hq
      cases h
      rw [mkI_inst, ← wrapW_ev ρ hq, ha q rfl]
    · cases h
  · cases h
/-- A sum, with numbers that are known put together. -/
def mkP (k : IntKind) (x y : W) : W := match x with
  | [.p u z 0 w] => bif w.beq k.bits then (match litOf z, litOf y with | some a, some b => [.p u (litW (a + b)) 0 k.bits] | _, _ => [.p x y 0 k.bits]) else [.p x y 0 k.bits]
  | x => [.p x y 0 k.bits]
theorem mkP_ev (ρ : Nat → Nat) (k : IntKind) (x y : W) : evW ρ (mkP k x y) = (evW ρ x + evW ρ y) % 2 ^ k.bits := by
  have h0 : evW ρ [.p x y 0 k.bits] = (evW ρ x + evW ρ y) % 2 ^ k.bits := by simp [evW, Seg.val]
  unfold mkP
  split
  · rename_i u z w
    cases hw : w.beq k.bits
    · exact h0
    · obtain rfl := Nat.eq_of_beq_eq_true hw
      simp only [cond_true]
      split
      · rename_i a b ha hb
        have e1 := litOf_ev ρ ha
        have e2 := litOf_ev ρ hb
        simp only [evW, Seg.val, Nat.pow_zero, Nat.div_one, Nat.mul_zero, Nat.add_zero, litW_ev, e1, e2]
        rw [← Nat.add_assoc, Nat.mod_add_mod]
      · exact h0
  · exact h0
def sAdd (k : IntKind) (x y : W) : Option SV := match outW k (zW .add 200 x y) with
  | some s => some s
  | none => bif k.signed then (bif Nat.blt (hiW x + hiW y) (lim k) then some (.w k (mkP k x y)) else none) else some (.w k (mkP k x y))
theorem sAdd_inst (ρ : Nat → Nat) {k : IntKind} {x y : W} {s : SV} (h : sAdd k x y = some s) : s.inst ρ = .int k (k.wrap (Int.ofNat (evW ρ x) + Int.ofNat (evW ρ y))) := by
  have e0 : Int.ofNat (evW ρ x) + Int.ofNat (evW ρ y) = Int.ofNat (evW ρ x + evW ρ y) := rfl
  rw [e0]
  unfold sAdd at h
  split at h
  · rename_i s' hs
    cases h
    exact outW_inst ρ hs fun q hq => zW_sound ρ _ _ _ _ _ hq
  · have hi : (SV.w k (mkP k x y)).inst ρ = .int k (Int.ofNat ((evW ρ x + evW ρ y) % 2 ^ k.bits)) := by
      simp only [SV.inst, mkP_ev]
    cases hk : k.signed <;> rw [hk] at h
    · cases h
      rw [hi, wrap_uns hk]
    · simp only [cond_true] at h
      cases hb : Nat.blt (hiW x + hiW y) (lim k) <;> rw [hb] at h <;> cases h
      have := (boundsW ρ x).2
      have := (boundsW ρ y).2
      have := blt_lt hb
      have := lim_le k
      rw [hi, wrap_lim (by omega), Nat.mod_eq_of_lt (by omega)]
/-- What was added to a word. -/
def subP (k : IntKind) (x y : W) : Option Nat := match x with
  | [.p u z 0 w] => bif w.beq k.bits && wEq u y then litOf z else none
  | _ => none
def sSub0 (k : IntKind) (x y : W) : Option SV := bif wEq x y then some (.n k 0) else
  bif Nat.ble (hiW y) (loW x) && Nat.blt (hiW x) (lim k) then some (.w k [.d x y 0 k.bits]) else bif k.signed then none else some (gW .sub k x y)
theorem sSub0_inst (ρ : Nat → Nat) {k : IntKind} {x y : W} {s : SV} (h : sSub0 k x y = some s) : s.inst ρ = .int k (k.wrap (Int.ofNat (evW ρ x) - Int.ofNat (evW ρ y))) := by
  have hx := boundsW ρ x
  have hy := boundsW ρ y
  unfold sSub0 at h
  cases h3 : wEq x y <;> rw [h3] at h
  · cases hb : Nat.ble (hiW y) (loW x) && Nat.blt (hiW x) (lim k) <;> rw [hb] at h
    · cases hk : k.signed <;> rw [hk] at h <;> cases h
      exact gW_inst ρ rfl (wrap_pos hk _).1 (wrap_pos hk _).2
    · cases h
      simp only [Bool.and_eq_true] at hb
      have h1 := Nat.le_of_ble_eq_true hb.1
      have h2 := blt_lt hb.2
      have := lim_le k
      have e : Int.ofNat (evW ρ x) - Int.ofNat (evW ρ y) = Int.ofNat (evW ρ x - evW ρ y) := by
        show ((evW ρ x : Nat) : Int) - ((evW ρ y : Nat) : Int) = ((evW ρ x - evW ρ y : Nat) : Int)
        omega
      rw [e, wrap_lim (by omega)]
      have e2 : (evW ρ x - evW ρ y) % 2 ^ k.bits = evW ρ x - evW ρ y := Nat.mod_eq_of_lt (by omega)
      simp [SV.inst, evW, Seg.val, e2]
  · cases h
    rw [wEq_sound _ _ h3]
    have : Int.ofNat (evW ρ y) - Int.ofNat (evW ρ y) = Int.ofNat 0 := Int.sub_self _
    rw [this, wrap_lim (by cases k <;> decide)]; rfl
def isZ (x : W) : Bool := match litOf x with | some a => a.beq 0 | none => false
theorem isZ_ev (ρ : Nat → Nat) {x : W} (h : isZ x = true) : evW ρ x = 0 := by
  unfold isZ at h
  split at h
  · rename_i a ha; rw [litOf_ev ρ ha]; exact Nat.eq_of_beq_eq_true h
  · cases h
def sSub (k : IntKind) (x y : W) : Option SV := bif isZ y && Nat.blt (hiW x) (lim k) then some (mkI k x) else match subP k x y with
  | some a => bif k.signed then sSub0 k x y else some (.n k (a % 2 ^ k.bits))
  | none => sSub0 k x y
theorem sSub_inst (ρ : Nat → Nat) {k : IntKind} {x y : W} {s : SV} (h : sSub k x y = some s) : s.inst ρ = .int k (k.wrap (Int.ofNat (evW ρ x) - Int.ofNat (evW ρ y))) := by
  unfold sSub at h
  cases hz : isZ y && Nat.blt (hiW x) (lim k) <;> rw [hz] at h
  case true =>
    simp only [Bool.and_eq_true] at hz
    cases h
    have h0 := isZ_ev ρ hz.1
    have h1 := Nat.lt_of_le_of_lt (boundsW ρ x).2 (blt_lt hz.2)
    rw [mkI_inst, h0]
    have e : Int.ofNat (evW ρ x) - Int.ofNat 0 = Int.ofNat (evW ρ x) := Int.sub_zero _
    rw [e, wrap_lim h1]
  simp only [cond_false] at h
  split at h
  · rename_i a ha
    cases hk : k.signed <;> rw [hk] at h
    · cases h
      unfold subP at ha
      split at ha
      · rename_i u z w
        cases hw : w.beq k.bits && wEq u y <;> rw [hw] at ha
        · cases ha
        · simp only [Bool.and_eq_true] at hw
          obtain rfl := Nat.eq_of_beq_eq_true hw.1
          obtain rfl := wEq_sound _ _ hw.2
          have e1 := litOf_ev ρ ha
          simp only [SV.inst, evW, Seg.val, Nat.pow_zero, Nat.div_one, Nat.mul_zero, Nat.add_zero, e1]
          generalize evW ρ u = b
          congr 1
          cases k <;> simp [IntKind.signed] at hk <;> simp only [IntKind.wrap, IntKind.bits, IntKind.signed, Int.ofNat_eq_natCast] <;> (simp; omega)
      · cases ha
    · exact sSub0_inst ρ h
  · exact sSub0_inst ρ h
def sMul (k : IntKind) (x y : W) : Option SV := match litP y with
  | some n => outW k (some (upW n x))
  | none => match litP x with
    | some n => outW k (some (upW n y))
    | none => bif isZ x || isZ y then some (.n k 0) else bif k.signed then none else some (gW .mul k x y)
theorem sMul_inst (ρ : Nat → Nat) {k : IntKind} {x y : W} {s : SV} (h : sMul k x y = some s) : s.inst ρ = .int k (k.wrap (Int.ofNat (evW ρ x) * Int.ofNat (evW ρ y))) := by
  have e0 : Int.ofNat (evW ρ x) * Int.ofNat (evW ρ y) = Int.ofNat (evW ρ x * evW ρ y) := rfl
  unfold sMul at h
  split at h
  · rename_i n hn
    rw [e0]
    refine outW_inst ρ h fun q hq => ?_
    cases hq
    rw [upW_ev, litP_spec ρ hn]
  · split at h
    · rename_i n hn
      rw [e0]
      refine outW_inst ρ h fun q hq => ?_
      cases hq
      rw [upW_ev, litP_spec ρ hn, Nat.mul_comm]
    · cases hz : isZ x || isZ y <;> rw [hz] at h
      · cases hk : k.signed <;> rw [hk] at h <;> cases h
        exact gW_inst ρ rfl (wrap_pos hk _).1 (wrap_pos hk _).2
      · cases h
        have : evW ρ x * evW ρ y = 0 := by
          rcases Bool.or_eq_true_iff.1 hz with q | q
          · rw [isZ_ev ρ q, Nat.zero_mul]
          · rw [isZ_ev ρ q, Nat.mul_zero]
        rw [e0, this, wrap_lim (by cases k <;> decide)]; rfl
def sQuo (k : IntKind) (x y : W) : Option SV := match litP y with
  | some n => outW k (some (dropW n x))
  | none => bif k.signed || Nat.beq (loW y) 0 then none else some (gW .quo k x y)
theorem sQuo_inst (ρ : Nat → Nat) {k : IntKind} {x y : W} {s : SV} (h : sQuo k x y = some s) : ibin .quo k (Int.ofNat (evW ρ x)) (Int.ofNat (evW ρ y)) = some (s.inst ρ) := by
  unfold sQuo at h
  have hne : evW ρ y ≠ 0 → (Int.ofNat (evW ρ y) == 0) = false := fun hq => by
    rw [beq_eq_false_iff_ne]
    exact fun e => hq (Int.ofNat.inj e)
  split at h
  · rename_i n hn
    have hy := litP_spec ρ hn
    have := outW_inst ρ h (a := evW ρ x / evW ρ y) fun q hq => by cases hq; rw [dropW_ev, hy]
    rw [this, ibin, hne (by rw [hy]; exact Nat.ne_of_gt (Nat.two_pow_pos _))]
    rfl
  · cases hz : k.signed || Nat.beq (loW y) 0 <;> rw [hz] at h <;> cases h
    simp only [Bool.or_eq_false_iff] at hz
    have h0 := (boundsW ρ y).1
    have h1 := Nat.ne_of_beq_eq_false hz.2
    have h2 : ibin .quo k (Int.ofNat (evW ρ x)) (Int.ofNat (evW ρ y)) = some (.int k (k.wrap ((Int.ofNat (evW ρ x)).tdiv (Int.ofNat (evW ρ y))))) := by
      rw [ibin, hne (by omega)]; rfl
    rw [h2]
    exact congrArg some (gW_inst ρ (op := .quo) h2 (wrap_pos hz.1 _).1 (wrap_pos hz.1 _).2).symm
def sRem (k : IntKind) (x y : W) : Option SV := match litP y with
  | some n => some (mkI k (takeW n x))
  | none => bif Nat.beq (loW y) 0 || Nat.ble (2 ^ k.bits) (hiW y) then none else some (gW .rem k x y)
theorem sRem_inst (ρ : Nat → Nat) {k : IntKind} {x y : W} {s : SV} (h : sRem k x y = some s) : ibin .rem k (Int.ofNat (evW ρ x)) (Int.ofNat (evW ρ y)) = some (s.inst ρ) := by
  unfold sRem at h
  have hne : evW ρ y ≠ 0 → (Int.ofNat (evW ρ y) == 0) = false := fun hq => by
    rw [beq_eq_false_iff_ne]
    exact fun e => hq (Int.ofNat.inj e)
  have e0 : (Int.ofNat (evW ρ x)).tmod (Int.ofNat (evW ρ y)) = Int.ofNat (evW ρ x % evW ρ y) := rfl
  split at h
  · rename_i n hn
    have hy := litP_spec ρ hn
    cases h
    rw [mkI_inst, takeW_ev, ← hy, ibin, hne (by rw [hy]; exact Nat.ne_of_gt (Nat.two_pow_pos _))]
    rfl
  · cases hz : Nat.beq (loW y) 0 || Nat.ble (2 ^ k.bits) (hiW y) <;> rw [hz] at h <;> cases h
    simp only [Bool.or_eq_false_iff] at hz
    have h0 := boundsW ρ y
    have h1 := Nat.ne_of_beq_eq_false hz.1
    have h3 : hiW y < 2 ^ k.bits := by
      have : ¬ 2 ^ k.bits ≤ hiW y := fun q => by rw [Nat.ble_eq_true_of_le q] at hz; cases hz.2
      omega
    have h2 : ibin .rem k (Int.ofNat (evW ρ x)) (Int.ofNat (evW ρ y)) = some (.int k (Int.ofNat (evW ρ x % evW ρ y))) := by
      rw [ibin, hne (by omega)]; rfl
    rw [h2]
    have h4 : evW ρ x % evW ρ y < evW ρ y := Nat.mod_lt _ (by omega)
    refine congrArg some (gW_inst ρ (op := .rem) h2 (Int.natCast_nonneg _) ?_).symm
    have : ((2 : Int) ^ k.bits) = ((2 ^ k.bits : Nat) : Int) := by simp
    rw [this]
    show ((_ : Nat) : Int) < _
    omega
def sBits (z : Z4) (op : BinOp) (k : IntKind) (x y : W) : Option SV := match outW k (zW z 200 (takeW k.bits x) (takeW k.bits y)) with
  | some s => some s
  | none => bif k.signed then none else some (gW op k x y)
theorem sBits_inst (ρ : Nat → Nat) {z : Z4} {op : BinOp} {k : IntKind} {x y : W} {s : SV} (hop : isShift op = false) (h : sBits z op k x y = some s) (he : ibin op k (Int.ofNat (evW ρ x)) (Int.ofNat (evW ρ y)) = some (.int k (k.wrap (Int.ofNat (semZ z (evW ρ x % 2 ^ k.bits) (evW ρ y % 2 ^ k.bits)))))) :
    ibin op k (Int.ofNat (evW ρ x)) (Int.ofNat (evW ρ y)) = some (s.inst ρ) := by
  unfold sBits at h
  split at h
  · rename_i s' hs
    cases h
    rw [he]
    refine congrArg some (outW_inst ρ hs fun q hq => ?_).symm
    rw [zW_sound ρ _ _ _ _ _ hq, takeW_ev, takeW_ev]
  · cases hk : k.signed <;> rw [hk] at h <;> cases h
    rw [he]
    refine congrArg some (gW_inst ρ ?_ (wrap_pos hk _).1 (wrap_pos hk _).2).symm
    rw [hop]; exact he
theorem ofInt_nat (w a : Nat) : BitVec.ofInt w (Int.ofNat a) = BitVec.ofNat w a := BitVec.ofInt_natCast w a
theorem and_eq (k : IntKind) (a b : Nat) : ibin .and k (Int.ofNat a) (Int.ofNat b) = some (.int k (k.wrap (Int.ofNat (semZ .and (a % 2 ^ k.bits) (b % 2 ^ k.bits))))) := by
  simp only [ibin, ofInt_nat, BitVec.toNat_and, BitVec.toNat_ofNat, semZ]; rfl
theorem or_eq (k : IntKind) (a b : Nat) : ibin .or k (Int.ofNat a) (Int.ofNat b) = some (.int k (k.wrap (Int.ofNat (semZ .or (a % 2 ^ k.bits) (b % 2 ^ k.bits))))) := by
  simp only [ibin, ofInt_nat, BitVec.toNat_or, BitVec.toNat_ofNat, semZ]; rfl
theorem xor_eq (k : IntKind) (a b : Nat) : ibin .xor k (Int.ofNat a) (Int.ofNat b) = some (.int k (k.wrap (Int.ofNat (semZ .xor (a % 2 ^ k.bits) (b % 2 ^ k.bits))))) := by
  simp only [ibin, ofInt_nat, BitVec.toNat_xor, BitVec.toNat_ofNat, semZ]; rfl
theorem bv_andNot {w : Nat} (x y : BitVec w) : x &&& ~~~ y = x ^^^ (x &&& y) := by
  apply BitVec.eq_of_getLsbD_eq
  intro i hi
  simp only [BitVec.getLsbD_and, BitVec.getLsbD_xor, BitVec.getLsbD_not, hi, decide_true, Bool.true_and]
  cases x.getLsbD i <;> cases y.getLsbD i <;> rfl
def sNot (k : IntKind) (x y : W) : Option SV := match zW .and 200 (takeW k.bits x) (takeW k.bits y) with
  | some q => match outW k (zW .xor 200 (takeW k.bits x) q) with
    | some s => some s
    | none => bif k.signed then none else some (gW .andNot k x y)
  | none => bif k.signed then none else some (gW .andNot k x y)
theorem sNot_inst (ρ : Nat → Nat) {k : IntKind} {x y : W} {s : SV} (h : sNot k x y = some s) : ibin .andNot k (Int.ofNat (evW ρ x)) (Int.ofNat (evW ρ y)) = some (s.inst ρ) := by
  have he : ibin .andNot k (Int.ofNat (evW ρ x)) (Int.ofNat (evW ρ y)) = some (.int k (k.wrap (Int.ofNat ((evW ρ x % 2 ^ k.bits) ^^^ ((evW ρ x % 2 ^ k.bits) &&& (evW ρ y % 2 ^ k.bits)))))) := by
    simp only [ibin, ofInt_nat, bv_andNot, BitVec.toNat_and, BitVec.toNat_xor, BitVec.toNat_ofNat]; rfl
  have hg : (bif k.signed then none else some (gW .andNot k x y)) = some s → ibin .andNot k (Int.ofNat (evW ρ x)) (Int.ofNat (evW ρ y)) = some (s.inst ρ) := fun h => by
    cases hk : k.signed <;> rw [hk] at h <;> cases h
    rw [he]
    exact congrArg some (gW_inst ρ (op := .andNot) he (wrap_pos hk _).1 (wrap_pos hk _).2).symm
  unfold sNot at h
  split at h
  · rename_i q hq
    split at h
    · rename_i s' hs
      cases h
      rw [he]
      refine congrArg some (outW_inst ρ hs fun p hp => ?_).symm
      rw [zW_sound ρ _ _ _ _ _ hp, takeW_ev, zW_sound ρ _ _ _ _ _ hq, takeW_ev, takeW_ev]
      rfl
    · exact hg h
  · exact hg h
/-- Two numbers of a kind. -/
def sbin (G : List Asm) (op : BinOp) (k : IntKind) (x y : W) : Option SV :=
  match op with
  | .add => sAdd k x y
  | .sub => sSub k x y
  | .mul => sMul k x y
  | .quo => sQuo k x y
  | .rem => sRem k x y
  | .and => sBits .and .and k x y
  | .or => sBits .or .or k x y
  | .xor => sBits .xor .xor k x y
  | .andNot => sNot k x y
  | .eql => (eqW G x y).map bSV
  | .neq => (eqW G x y).map fun b => bSV !b
  | .lss => (ltW G x y).map bSV
  | .geq => (ltW G x y).map fun b => bSV !b
  | .gtr => (ltW G y x).map bSV
  | .leq => (ltW G y x).map fun b => bSV !b
  | _ => none
theorem sbin_inst {ρ : Nat → Nat} {G : List Asm} {op : BinOp} {k : IntKind} {x y : W} {s : SV} (hG : ∀ a ∈ G, a.ok ρ) (h : sbin G op k x y = some s) : ibin op k (Int.ofNat (evW ρ x)) (Int.ofNat (evW ρ y)) = some (s.inst ρ) := by
  have hlt : ∀ a b : Nat, decide (Int.ofNat a < Int.ofNat b) = decide (a < b) := fun a b => by
    simp only [Int.ofNat_eq_natCast, Int.ofNat_lt]
  cases op <;> simp only [sbin] at h
  case add => rw [sAdd_inst ρ h]; rfl
  case sub => rw [sSub_inst ρ h]; rfl
  case mul => rw [sMul_inst ρ h]; rfl
  case quo => exact sQuo_inst ρ h
  case rem => exact sRem_inst ρ h
  case and => exact sBits_inst ρ rfl h (and_eq _ _ _)
  case or => exact sBits_inst ρ rfl h (or_eq _ _ _)
  case xor => exact sBits_inst ρ rfl h (xor_eq _ _ _)
  case andNot => exact sNot_inst ρ h
  case eql =>
    obtain ⟨b, hb, rfl⟩ := Option.map_eq_some_iff.1 h
    rw [bSV_inst, ← eqW_spec hG hb, ibin]
    congr 2
    rw [Bool.eq_iff_iff]; simp; omega
  case neq =>
    obtain ⟨b, hb, rfl⟩ := Option.map_eq_some_iff.1 h
    rw [bSV_inst, ← eqW_spec hG hb, ibin]
    congr 2
    rw [Bool.eq_iff_iff]; simp; omega
  case lss =>
    obtain ⟨b, hb, rfl⟩ := Option.map_eq_some_iff.1 h
    rw [bSV_inst, ← ltW_spec hG hb, ibin, ← hlt]
  case geq =>
    obtain ⟨b, hb, rfl⟩ := Option.map_eq_some_iff.1 h
    rw [bSV_inst, ← ltW_spec hG hb, ibin, ← hlt]
    congr 2
    rw [Bool.eq_iff_iff]; simp
  case gtr =>
    obtain ⟨b, hb, rfl⟩ := Option.map_eq_some_iff.1 h
    rw [bSV_inst, ← ltW_spec hG hb, ibin, ← hlt]
  case leq =>
    obtain ⟨b, hb, rfl⟩ := Option.map_eq_some_iff.1 h
    rw [bSV_inst, ← ltW_spec hG hb, ibin, ← hlt]
    congr 2
    rw [Bool.eq_iff_iff]; simp
  all_goals cases h
/-- A number moved. -/
def sshift (op : BinOp) (k : IntKind) (x y : W) : Option SV :=
  match op with
  | .shl => match litOf y with
    | some a => outW k (some (upW (Nat.min a k.bits) x))
    | none => bif k.signed then none else some (gW .shl k x y)
  | .shr => match litOf y with
    | some a => some (mkI k (dropW (Nat.min a k.bits) x))
    | none => bif Nat.blt (hiW x) (2 ^ k.bits) then some (gW .shr k x y) else none
  | _ => none
theorem ishift_shl (k : IntKind) (a b : Nat) : ishift .shl k (Int.ofNat a) (Int.ofNat b) = some (.int k (k.wrap (Int.ofNat (a * 2 ^ Nat.min b k.bits)))) := by
  have h0 : decide (Int.ofNat b < 0) = false := decide_eq_false (by simp)
  rw [ishift, h0]
  simp only [cond_false]
  congr 3
theorem ishift_shr (k : IntKind) (a b : Nat) : ishift .shr k (Int.ofNat a) (Int.ofNat b) = some (.int k (Int.ofNat (a / 2 ^ Nat.min b k.bits))) := by
  have h0 : decide (Int.ofNat b < 0) = false := decide_eq_false (by simp)
  rw [ishift, h0]
  simp only [cond_false]
  congr 2
  have : ((2 : Int) ^ min (Int.ofNat b).toNat k.bits) = ((2 ^ Nat.min b k.bits : Nat) : Int) := by simp
  rw [this, Int.fdiv_eq_ediv_of_nonneg _ (Int.natCast_nonneg _)]
  rfl
theorem sshift_inst (ρ : Nat → Nat) {op : BinOp} {k : IntKind} {x y : W} {s : SV} (h : sshift op k x y = some s) : ishift op k (Int.ofNat (evW ρ x)) (Int.ofNat (evW ρ y)) = some (s.inst ρ) := by
  unfold sshift at h
  split at h
  · split at h
    · rename_i a ha
      rw [ishift_shl]
      refine congrArg some (outW_inst ρ h fun q hq => ?_).symm
      cases hq
      rw [upW_ev, litOf_ev ρ ha]
    · cases hk : k.signed <;> rw [hk] at h <;> cases h
      rw [ishift_shl]
      exact congrArg some (gW_inst ρ (op := .shl) (ishift_shl _ _ _) (wrap_pos hk _).1 (wrap_pos hk _).2).symm
  · split at h
    · rename_i a ha
      cases h
      rw [ishift_shr, mkI_inst, dropW_ev, litOf_ev ρ ha]
    · cases hb : Nat.blt (hiW x) (2 ^ k.bits) <;> rw [hb] at h <;> cases h
      have h1 := blt_lt hb
      have h2 := (boundsW ρ x).2
      rw [ishift_shr]
      refine congrArg some (gW_inst ρ (op := .shr) (ishift_shr _ _ _) (Int.natCast_nonneg _) ?_).symm
      have : ((2 : Int) ^ k.bits) = ((2 ^ k.bits : Nat) : Int) := by simp
      rw [this]
      show ((_ : Nat) : Int) < _
      have := Nat.div_le_self (evW ρ x) (2 ^ Nat.min (evW ρ y) k.bits)
      omega
  · cases h
end Go.Ev
/- Operations on values that are not known whole: two values, changes of type. -/
namespace Go.Ev
open Go
set_option linter.unusedVariables false
set_option linter.unusedSimpArgs false
set_option linter.constructorNameAsVariable false
noncomputable section
/-! Numbers are told in full before they go on. -/
def fSeg (s : Seg) (K : Seg → Bool) : Bool :=
  Seg.casesOn (motive_1 := fun _ => Bool) s (fun n w => fN n fun n => fN w fun w => K (.k n w)) (fun i o w => fN i fun i => fN o fun o => fN w fun w => K (.v i o w))
    (fun op q a b o w => fN o fun o => fN w fun w => K (.g op q a b o w)) (fun a b o w => fN o fun o => fN w fun w => K (.d a b o w)) (fun a b o w => fN o fun o => fN w fun w => K (.p a b o w))
theorem fSeg_eq (s : Seg) (K : Seg → Bool) : fSeg s K = K s := by cases s <;> simp only [fSeg, fN_eq]
def fW (x : W) : (W → Bool) → Bool := List.rec (motive := fun _ => (W → Bool) → Bool) (fun K => K []) (fun s _ ih K => fSeg s fun s => ih fun r => K (s :: r)) x
theorem fW_eq (x : W) : ∀ (K : W → Bool), fW x K = K x := by
  induction x with
  | nil => intro K; rfl
  | cons s r ih =>
    intro K
    show fSeg s (fun s => fW r fun r => K (s :: r)) = _
    rw [fSeg_eq, ih]
def fSV (v : SV) (K : SV → Bool) : Bool := match v with
  | .n k a => fN a fun a => K (.n k a)
  | .z k a => fN a fun a => K (.z k a)
  | .w k x => fW x fun x => K (.w k x)
  | v => K v
theorem fSV_eq (v : SV) (K : SV → Bool) : fSV v K = K v := by
  unfold fSV
  split
  · rw [fN_eq]
  · rw [fN_eq]
  · rw [fW_eq]
  · rfl
/-! Two known numbers -/
def genBin (op : BinOp) (k : IntKind) (a b : Nat) (K : SV → Bool) : Bool := bnd (ibin op k (Int.ofNat a) (Int.ofNat b)) fun v => bnd (cv0 v) fun s => fSV s K
def natBin (op : BinOp) (k : IntKind) (a b : Nat) (K : SV → Bool) : Bool := match op with
  | .eql => ifK (Nat.beq a b) (K .t) (K .f)
  | .neq => ifK (Nat.beq a b) (K .f) (K .t)
  | .lss => ifK (Nat.blt a b) (K .t) (K .f)
  | .geq => ifK (Nat.blt a b) (K .f) (K .t)
  | .gtr => ifK (Nat.blt b a) (K .t) (K .f)
  | .leq => ifK (Nat.blt b a) (K .f) (K .t)
  | .add => fN (Nat.add a b) fun c => ifK (Nat.blt c (lim k)) (K (.n k c)) (genBin .add k a b K)
  | .sub => ifK (Nat.blt a (lim k) && Nat.ble b a) (fN (Nat.sub a b) fun c => K (.n k c)) (genBin .sub k a b K)
  | .mul => fN (Nat.mul a b) fun c => ifK (Nat.blt c (lim k)) (K (.n k c)) (genBin .mul k a b K)
  | op => genBin op k a b K
theorem genBin_true (ρ : Nat → Nat) {op : BinOp} {k : IntKind} {a b : Nat} {K : SV → Bool} (h : genBin op k a b K = true) : ∃ s, ibin op k (Int.ofNat a) (Int.ofNat b) = some (s.inst ρ) ∧ K s = true := by
  obtain ⟨v, h1, h⟩ := bnd_true (r := ibin op k (Int.ofNat a) (Int.ofNat b)) h
  obtain ⟨s, h2, h⟩ := bnd_true (r := cv0 v) h
  rw [fSV_eq] at h
  exact ⟨s, by rw [h1, (cv0_spec ρ h2).1], h⟩
theorem nblt_dec (a b : Nat) : decide (Int.ofNat a < Int.ofNat b) = Nat.blt a b := by
  simp only [Int.ofNat_eq_natCast, Int.ofNat_lt]
  cases hb : Nat.blt a b
  · exact decide_eq_false fun q => by rw [show Nat.blt a b = true from Nat.ble_eq_true_of_le q] at hb; cases hb
  · exact decide_eq_true (blt_lt hb)
theorem nbeq_dec (a b : Nat) : (Int.ofNat a == Int.ofNat b) = Nat.beq a b := by
  cases hb : Nat.beq a b
  · rw [beq_eq_false_iff_ne]; exact fun q => Nat.ne_of_beq_eq_false hb (Int.ofNat.inj q)
  · rw [Nat.eq_of_beq_eq_true hb]; simp
theorem natBin_true (ρ : Nat → Nat) {op : BinOp} {k : IntKind} {a b : Nat} {K : SV → Bool} (h : natBin op k a b K = true) : ∃ s, ibin op k (Int.ofNat a) (Int.ofNat b) = some (s.inst ρ) ∧ K s = true := by
  have hc : ∀ {x : Bool} {p q : SV}, ifK x (K p) (K q) = true → ∃ s, s = (bif x then p else q) ∧ K s = true := fun {x p q} h => by
    cases x
    · exact ⟨q, rfl, h⟩
    · exact ⟨p, rfl, h⟩
  have hnb : ∀ x : Bool, (bif x then SV.f else SV.t) = bSV !x := fun x => by cases x <;> rfl
  have hb : ∀ x : Bool, (bif x then SV.t else SV.f) = bSV x := fun x => rfl
  unfold natBin at h
  split at h
  · obtain ⟨s, rfl, h⟩ := hc h
    exact ⟨_, by rw [hb, bSV_inst, ibin, nbeq_dec], h⟩
  · obtain ⟨s, rfl, h⟩ := hc h
    exact ⟨_, by rw [hnb, bSV_inst, ibin, bne, nbeq_dec], h⟩
  · obtain ⟨s, rfl, h⟩ := hc h
    exact ⟨_, by rw [hb, bSV_inst, ibin, nblt_dec], h⟩
  · obtain ⟨s, rfl, h⟩ := hc h
    refine ⟨_, ?_, h⟩
    rw [hnb, bSV_inst, ibin, ← nblt_dec]
    congr 2
    rw [Bool.eq_iff_iff]; simp
  · obtain ⟨s, rfl, h⟩ := hc h
    exact ⟨_, by rw [hb, bSV_inst, ibin, ← nblt_dec], h⟩
  · obtain ⟨s, rfl, h⟩ := hc h
    refine ⟨_, ?_, h⟩
    rw [hnb, bSV_inst, ibin, ← nblt_dec]
    congr 2
    rw [Bool.eq_iff_iff]; simp
  · rw [fN_eq] at h
    rcases ifK_true h with ⟨h1, h⟩ | ⟨_, h⟩
    · refine ⟨_, ?_, h⟩
      rw [ibin, SV.inst]
      have := wrap_lim (blt_lt h1)
      rw [show Int.ofNat a + Int.ofNat b = Int.ofNat (Nat.add a b) from rfl, this]
    · exact genBin_true ρ h
  · rcases ifK_true h with ⟨h1, h⟩ | ⟨_, h⟩
    · rw [fN_eq] at h
      simp only [Bool.and_eq_true] at h1
      refine ⟨_, ?_, h⟩
      have h2 := blt_lt h1.1
      have h3 := Nat.le_of_ble_eq_true h1.2
      have e : Int.ofNat a - Int.ofNat b = Int.ofNat (Nat.sub a b) := by
        show ((a : Nat) : Int) - ((b : Nat) : Int) = ((a - b : Nat) : Int)
        omega
      have h4 : Nat.sub a b < lim k := by
        show a - b < lim k
        omega
      rw [ibin, SV.inst, e, wrap_lim h4]
    · exact genBin_true ρ h
  · rw [fN_eq] at h
    rcases ifK_true h with ⟨h1, h⟩ | ⟨_, h⟩
    · refine ⟨_, ?_, h⟩
      rw [ibin, SV.inst]
      have := wrap_lim (blt_lt h1)
      rw [show Int.ofNat a * Int.ofNat b = Int.ofNat (Nat.mul a b) from rfl, this]
    · exact genBin_true ρ h
  · exact genBin_true ρ h
/-! Two numbers -/
def symK (G : List Asm) (op : BinOp) (k k' : IntKind) (x y : W) (K : SV → Bool) : Bool :=
  ifK (isShift op) (bnd (sshift op k x y) fun s => fSV s K) (ifK (k == k') (bnd (sbin G op k x y) fun s => fSV s K) false)
def intK (G : List Asm) (op : BinOp) (k k' : IntKind) (a b : Nat) (K : SV → Bool) : Bool :=
  ifK (isShift op) (bnd (ishift op k (Int.ofNat a) (Int.ofNat b)) fun v => bnd (cv0 v) fun s => fSV s K) (ifK (k == k') (natBin op k a b K) false)
def litK (T : Tab) (op : BinOp) (ty : TypeId) (u v : SV) (K : SV → Bool) : Bool := bnd (litV u) fun a => bnd (litV v) fun b => bnd (abin T op ty a b) fun r => bnd (cv0 r) fun s => fSV s K
def isPtr : Option TypeDesc → Bool | some (.pointer _) => true | _ => false
def isSl : Option TypeDesc → Bool | some (.slice _) => true | _ => false
def nilK (ok : Bool) (op : BinOp) (b : Bool) (K : SV → Bool) : Bool := ifK ok (match op with
  | .eql => K (bSV b)
  | .neq => K (bSV !b)
  | _ => false) false
def binK (G : List Asm) (T : Tab) (op : BinOp) (ty : TypeId) (u v : SV) (K : SV → Bool) : Bool := match u with
  | .n k a => (match v with
    | .n k' b => intK G op k k' a b K
    | .w k' y => symK G op k k' (litW a) y K
    | _ => litK T op ty u v K)
  | .w k x => (match v with
    | .n k' b => symK G op k k' x (litW b) K
    | .w k' y => symK G op k k' x y K
    | _ => false)
  | .np => (match v with
    | .np => nilK (isPtr (T.under ty)) op true K
    | .p _ _ => nilK (isPtr (T.under ty)) op false K
    | _ => false)
  | .p _ _ => (match v with
    | .np => nilK (isPtr (T.under ty)) op false K
    | _ => false)
  | .ns => (match v with
    | .ns => nilK (isSl (T.under ty)) op true K
    | .sl _ _ _ _ => nilK (isSl (T.under ty)) op false K
    | _ => false)
  | .sl _ _ _ _ => (match v with
    | .ns => nilK (isSl (T.under ty)) op false K
    | _ => false)
  | _ => litK T op ty u v K
/-! Two known numbers, by an operation that is known -/
abbrev NatF := IntKind → IntKind → Nat → Nat → (SV → Bool) → Bool
def natB (op : BinOp) : Bx NatF := BinOp.rec (motive := fun _ => Bx NatF)
  (.mk fun k k' a b K => ifK (k == k') (fN (Nat.add a b) fun c => ifK (Nat.ble (Nat.succ c) (lim k)) (K (.n k c)) (genBin .add k a b K)) false)
  (.mk fun k k' a b K => ifK (k == k') (ifK (Nat.ble b a) (ifK (Nat.ble (Nat.succ a) (lim k)) (fN (Nat.sub a b) fun c => K (.n k c)) (genBin .sub k a b K)) (genBin .sub k a b K)) false)
  (.mk fun k k' a b K => ifK (k == k') (fN (Nat.mul a b) fun c => ifK (Nat.ble (Nat.succ c) (lim k)) (K (.n k c)) (genBin .mul k a b K)) false)
  (.mk fun k k' a b K => ifK (k == k') (ifK (Nat.beq b 0) false (fN (Nat.div a b) fun c => ifK (Nat.ble (Nat.succ c) (lim k)) (K (.n k c)) (genBin .quo k a b K))) false)
  (.mk fun k k' a b K => ifK (k == k') (ifK (Nat.beq b 0) false (fN (Nat.mod a b) fun c => K (.n k c))) false)
  (.mk fun k k' a b K => intK [] .and k k' a b K) (.mk fun k k' a b K => intK [] .or k k' a b K) (.mk fun k k' a b K => intK [] .xor k k' a b K)
  (.mk fun k k' a b K => fN (Nat.mul a (Nat.pow 2 (Nat.min b 64))) fun c => ifK (Nat.ble (Nat.succ c) (lim k)) (ifK (Nat.ble b k.bits) (K (.n k c)) (intK [] .shl k k' a b K)) (intK [] .shl k k' a b K))
  (.mk fun k k' a b K => ifK (Nat.ble b k.bits) (fN (Nat.div a (Nat.pow 2 b)) fun c => K (.n k c)) (intK [] .shr k k' a b K))
  (.mk fun k k' a b K => intK [] .andNot k k' a b K)
  (.mk fun k k' a b K => ifK (k == k') (ifK (Nat.beq a b) (K .t) (K .f)) false)
  (.mk fun k k' a b K => ifK (k == k') (ifK (Nat.beq a b) (K .f) (K .t)) false)
  (.mk fun k k' a b K => ifK (k == k') (ifK (Nat.ble (Nat.succ a) b) (K .t) (K .f)) false)
  (.mk fun k k' a b K => ifK (k == k') (ifK (Nat.ble (Nat.succ b) a) (K .f) (K .t)) false)
  (.mk fun k k' a b K => ifK (k == k') (ifK (Nat.ble (Nat.succ b) a) (K .t) (K .f)) false)
  (.mk fun k k' a b K => ifK (k == k') (ifK (Nat.ble (Nat.succ a) b) (K .f) (K .t)) false) op
theorem symK_true {ρ : Nat → Nat} {G : List Asm} (hG : ∀ a ∈ G, a.ok ρ) {T : Tab} {op : BinOp} {ty : TypeId} {k k' : IntKind} {x y : W} {K : SV → Bool} (h : symK G op k k' x y K = true) :
    ∃ s, abin T op ty (.int k (Int.ofNat (evW ρ x))) (.int k' (Int.ofNat (evW ρ y))) = some (SV.inst ρ s) ∧ K s = true := by
  simp only [abin]
  rcases ifK_true h with ⟨h1, h⟩ | ⟨h1, h⟩
  · obtain ⟨s, h2, h⟩ := bnd_true (r := sshift op k x y) h
    rw [fSV_eq] at h
    exact ⟨s, by rw [h1, cond_true, sshift_inst ρ h2], h⟩
  · rcases ifK_true h with ⟨h3, h⟩ | ⟨_, h⟩
    · obtain ⟨s, h2, h⟩ := bnd_true (r := sbin G op k x y) h
      rw [fSV_eq] at h
      exact ⟨s, by rw [h1, cond_false, h3, cond_true, sbin_inst hG h2], h⟩
    · cases h
theorem intK_true (ρ : Nat → Nat) {G : List Asm} {T : Tab} {op : BinOp} {ty : TypeId} {k k' : IntKind} {a b : Nat} {K : SV → Bool} (h : intK G op k k' a b K = true) :
    ∃ s, abin T op ty (.int k (Int.ofNat a)) (.int k' (Int.ofNat b)) = some (SV.inst ρ s) ∧ K s = true := by
  simp only [abin]
  rcases ifK_true h with ⟨h1, h⟩ | ⟨h1, h⟩
  · obtain ⟨v, h2, h⟩ := bnd_true (r := ishift op k (Int.ofNat a) (Int.ofNat b)) h
    obtain ⟨s, h3, h⟩ := bnd_true (r := cv0 v) h
    rw [fSV_eq] at h
    exact ⟨s, by rw [h1, cond_true, h2, (cv0_spec ρ h3).1], h⟩
  · rcases ifK_true h with ⟨h3, h⟩ | ⟨_, h⟩
    · obtain ⟨s, h4, h⟩ := natBin_true ρ h
      exact ⟨s, by rw [h1, cond_false, h3, cond_true, h4], h⟩
    · cases h
theorem natB_true (ρ : Nat → Nat) {T : Tab} {op : BinOp} {ty : TypeId} {k k' : IntKind} {a b : Nat} {K : SV → Bool} (h : Bx.rec (motive := fun _ => Bool) (fun g => g k k' a b K) (natB op) = true) :
    ∃ s, abin T op ty (.int k (Int.ofNat a)) (.int k' (Int.ofNat b)) = some (SV.inst ρ s) ∧ K s = true := by
  have same : isShift op = false → k == k' → ∀ {s}, ibin op k (Int.ofNat a) (Int.ofNat b) = some (SV.inst ρ s) → abin T op ty (.int k (Int.ofNat a)) (.int k' (Int.ofNat b)) = some (SV.inst ρ s) := fun h1 h2 s h3 => by
    simp only [abin, h1, h2, cond_true, cond_false, h3]
  have viaG : ∀ {G : List Asm}, isShift op = false → k == k' → natBin op k a b K = true → ∃ s, abin T op ty (.int k (Int.ofNat a)) (.int k' (Int.ofNat b)) = some (SV.inst ρ s) ∧ K s = true := fun {G} h1 h2 h => by
    obtain ⟨s, h3, h4⟩ := natBin_true ρ h
    exact ⟨s, same h1 h2 h3, h4⟩
  cases op
  case add =>
    obtain ⟨h1, h⟩ := ifF_true h
    exact viaG (G := []) rfl h1 h
  case sub =>
    obtain ⟨h1, h⟩ := ifF_true h
    refine viaG (G := []) rfl h1 ?_
    show ifK (Nat.blt a (lim k) && Nat.ble b a) (fN (Nat.sub a b) fun c => K (.n k c)) (genBin .sub k a b K) = true
    rcases ifK_true h with ⟨h2, h⟩ | ⟨h2, h⟩
    · rcases ifK_true h with ⟨h3, h⟩ | ⟨h3, h⟩
      · rw [show Nat.blt a (lim k) = true from h3, h2]; exact h
      · rw [show Nat.blt a (lim k) = false from h3]; exact h
    · rw [h2, Bool.and_false]; exact h
  case mul =>
    obtain ⟨h1, h⟩ := ifF_true h
    exact viaG (G := []) rfl h1 h
  case quo =>
    obtain ⟨h1, h⟩ := ifF_true h
    rcases ifK_true h with ⟨_, h⟩ | ⟨h2, h⟩
    · cases h
    rw [fN_eq] at h
    rcases ifK_true h with ⟨h3, h⟩ | ⟨_, h⟩
    · refine ⟨_, same rfl h1 (s := .n k (Nat.div a b)) ?_, h⟩
      have hb := Nat.ne_of_beq_eq_false h2
      have e0 : (Int.ofNat b == 0) = false := by rw [beq_eq_false_iff_ne]; exact fun e => hb (Int.ofNat.inj e)
      rw [ibin, e0, cond_false]
      have e1 : (Int.ofNat a).tdiv (Int.ofNat b) = Int.ofNat (Nat.div a b) := rfl
      rw [e1, wrap_lim (Nat.le_of_ble_eq_true h3)]; rfl
    · obtain ⟨s, h3, h4⟩ := genBin_true ρ h
      exact ⟨s, same rfl h1 h3, h4⟩
  case rem =>
    obtain ⟨h1, h⟩ := ifF_true h
    rcases ifK_true h with ⟨_, h⟩ | ⟨h2, h⟩
    · cases h
    rw [fN_eq] at h
    refine ⟨_, same rfl h1 (s := .n k (Nat.mod a b)) ?_, h⟩
    have hb := Nat.ne_of_beq_eq_false h2
    have e0 : (Int.ofNat b == 0) = false := by rw [beq_eq_false_iff_ne]; exact fun e => hb (Int.ofNat.inj e)
    rw [ibin, e0, cond_false]; rfl
  case shl =>
    have h : (fN (Nat.mul a (Nat.pow 2 (Nat.min b 64))) fun c => ifK (Nat.ble (Nat.succ c) (lim k)) (ifK (Nat.ble b k.bits) (K (.n k c)) (intK [] .shl k k' a b K)) (intK [] .shl k k' a b K)) = true := h
    rw [fN_eq] at h
    rcases ifK_true h with ⟨h3, h⟩ | ⟨_, h⟩
    · rcases ifK_true h with ⟨h2, h⟩ | ⟨_, h⟩
      · have h2 := Nat.le_of_ble_eq_true h2
        have hk : k.bits ≤ 64 := by cases k <;> decide
        refine ⟨_, ?_, h⟩
        have e : Nat.min b 64 = b := Nat.min_eq_left (by omega)
        have e2 : Nat.min b k.bits = b := Nat.min_eq_left h2
        have := ishift_shl k a b
        rw [e2] at this
        have h3 : a * 2 ^ b < lim k := by
          have := Nat.le_of_ble_eq_true h3
          rw [e] at this; exact this
        simp only [abin, isShift, cond_true]
        rw [this, wrap_lim h3, e]; rfl
      · exact intK_true ρ h
    · exact intK_true ρ h
  case shr =>
    rcases ifK_true h with ⟨h2, h⟩ | ⟨_, h⟩
    · have h2 := Nat.le_of_ble_eq_true h2
      rw [fN_eq] at h
      refine ⟨_, ?_, h⟩
      have e2 : Nat.min b k.bits = b := Nat.min_eq_left h2
      have := ishift_shr k a b
      rw [e2] at this
      simp only [abin, isShift, cond_true]
      rw [this]; rfl
    · exact intK_true ρ h
  case and => exact intK_true ρ h
  case or => exact intK_true ρ h
  case xor => exact intK_true ρ h
  case andNot => exact intK_true ρ h
  all_goals
    obtain ⟨h1, h⟩ := ifF_true h
    exact viaG (G := []) rfl h1 h
theorem litK_true (ρ : Nat → Nat) {T : Tab} {op : BinOp} {ty : TypeId} {u v : SV} {K : SV → Bool} (h : litK T op ty u v K = true) : ∃ s, abin T op ty (u.inst ρ) (v.inst ρ) = some (SV.inst ρ s) ∧ K s = true := by
  obtain ⟨a, h1, h⟩ := bnd_true (r := litV u) h
  obtain ⟨b, h2, h⟩ := bnd_true (r := litV v) h
  obtain ⟨r, h3, h⟩ := bnd_true (r := abin T op ty a b) h
  obtain ⟨s, h4, h⟩ := bnd_true (r := cv0 r) h
  rw [fSV_eq] at h
  exact ⟨s, by rw [(litV_spec ρ h1).1, (litV_spec ρ h2).1, h3, (cv0_spec ρ h4).1], h⟩
theorem nilK_true (ρ : Nat → Nat) {ok : Bool} {op : BinOp} {b : Bool} {K : SV → Bool} (h : nilK ok op b K = true) : ok = true ∧ ((op = .eql ∧ K (bSV b) = true) ∨ (op = .neq ∧ K (bSV !b) = true)) := by
  rcases ifK_true h with ⟨h1, h⟩ | ⟨_, h⟩
  · refine ⟨h1, ?_⟩
    split at h
    · exact .inl ⟨rfl, h⟩
    · exact .inr ⟨rfl, h⟩
    · cases h
  · cases h
theorem isPtr_spec {d : Option TypeDesc} (h : isPtr d = true) : ∃ e, d = some (.pointer e) := by
  unfold isPtr at h
  split at h
  · exact ⟨_, rfl⟩
  · cases h
theorem isSl_spec {d : Option TypeDesc} (h : isSl d = true) : ∃ e, d = some (.slice e) := by
  unfold isSl at h
  split at h
  · exact ⟨_, rfl⟩
  · cases h
theorem binK_true {ρ : Nat → Nat} {G : List Asm} (hG : ∀ a ∈ G, a.ok ρ) {T : Tab} {op : BinOp} {ty : TypeId} {u v : SV} {K : SV → Bool} (h : binK G T op ty u v K = true) : ∃ s, abin T op ty (u.inst ρ) (v.inst ρ) = some (SV.inst ρ s) ∧ K s = true := by
  have e1 : ∀ (k : IntKind) (a : Nat), (SV.n k a).inst ρ = .int k (Int.ofNat (evW ρ (litW a))) := fun k a => by rw [litW_ev]; rfl
  unfold binK at h
  split at h
  · split at h
    · exact intK_true ρ h
    · rw [e1]; exact symK_true hG h
    · exact litK_true ρ h
  · split at h
    · rw [e1]; exact symK_true hG h
    · exact symK_true hG h
    · cases h
  · split at h
    all_goals first | (cases h; done) | skip
    all_goals
      obtain ⟨h1, h2⟩ := nilK_true ρ h
      clear h
      obtain ⟨e, he⟩ := isPtr_spec h1
      rcases h2 with ⟨rfl, h⟩ | ⟨rfl, h⟩
      · exact ⟨_, by rw [bSV_inst]; simp [abin, SV.inst, he], h⟩
      · exact ⟨_, by rw [bSV_inst]; simp [abin, SV.inst, he], h⟩
  · split at h
    all_goals first | (cases h; done) | skip
    all_goals
      obtain ⟨h1, h2⟩ := nilK_true ρ h
      clear h
      obtain ⟨e, he⟩ := isPtr_spec h1
      rcases h2 with ⟨rfl, h⟩ | ⟨rfl, h⟩
      · exact ⟨_, by rw [bSV_inst]; simp [abin, SV.inst, he], h⟩
      · exact ⟨_, by rw [bSV_inst]; simp [abin, SV.inst, he], h⟩
  · split at h
    all_goals first | (cases h; done) | skip
    all_goals
      obtain ⟨h1, h2⟩ := nilK_true ρ h
      clear h
      obtain ⟨e, he⟩ := isSl_spec h1
      rcases h2 with ⟨rfl, h⟩ | ⟨rfl, h⟩
      · exact ⟨_, by rw [bSV_inst]; simp [abin, SV.inst, he], h⟩
      · exact ⟨_, by rw [bSV_inst]; simp [abin, SV.inst, he], h⟩
  · split at h
    all_goals first | (cases h; done) | skip
    all_goals
      obtain ⟨h1, h2⟩ := nilK_true ρ h
      clear h
      obtain ⟨e, he⟩ := isSl_spec h1
      rcases h2 with ⟨rfl, h⟩ | ⟨rfl, h⟩
      · exact ⟨_, by rw [bSV_inst]; simp [abin, SV.inst, he], h⟩
      · exact ⟨_, by rw [bSV_inst]; simp [abin, SV.inst, he], h⟩
  · exact litK_true ρ h
end
end Go.Ev
/- Operations on values that are not known whole: strings, structs, changes of type, places, slices. -/
namespace Go.Ev
open Go
set_option linter.unusedVariables false
set_option linter.unusedSimpArgs false
set_option linter.constructorNameAsVariable false
noncomputable section
theorem prun_bind {α β : Type} {P : Program} {f : α → Sem β} (s : Sem α) : ∀ (a : α) (b : β), prun P s = some a → prun P (f a) = some b → prun P (s >>= f) = some b := by
  induction s with
  | pure b0 => intro a b h hb; simp only [prun] at h; cases h; exact hb
  | program k ih => intro a b h hb; simp only [prun] at h; exact ih P a b h hb
  | _ => intro a b h; simp [prun] at h
/-- Where the short form says nothing: the model's own run. -/
theorem fb_bin {P : Program} {T : Tab} {tm : Tr Value} {o : Oper} {H : Heap} {op : BinOp} {t t2 : TypeId} {a b : Operand} {u v r : Value} (ho : o.op = .binOp op t a b t2) (hx : aeval tm a = some u) (hy : aeval tm b = some v) (h : abin T op t u v = none) (hc : closed u = true) (hd : closed v = true) (hr : prun P (do eqGuard op t a b u v; Go.binOp op t u v) = some r) (hv : closed r = true) (hn : ∀ xs, u ≠ .agg xs) : aop P T tm o H = some (.val r, H) := by
  have h1 : ρ tm a = u := by simp only [ρ, hx, Option.getD_some]
  have h2 : ρ tm b = v := by simp only [ρ, hy, Option.getD_some]
  unfold aop
  simp only [ho, hx, hy, h, orVal]
  unfold fallback
  simp only [ho, Op.operands, List.all_cons, List.all_nil, dataAt, hx, hy, hc, hd, Bool.and_self, cond_true]
  have he : prun P (execOp (Go.Ev.ρ tm) o) = some (.value r) := by
    have : execOp (Go.Ev.ρ tm) o = (do let v ← (do eqGuard op t a b u v; Go.binOp op t u v); pure (.value v)) := by simp [execOp, ho, h1, h2]
    rw [this]
    exact prun_bind _ _ _ hr rfl
  have hag : aggEq P tm o = none := by
    unfold aggEq
    simp only [ho, hx, hy]
    split
    · rename_i e _; cases e; exact absurd rfl (hn _)
    · rename_i e _; cases e; exact absurd rfl (hn _)
    · rfl
  simp only [hag, fallback0, ho, Op.operands, List.all_cons, List.all_nil, dataAt, hx, hy, hc, hd, Bool.and_self, cond_true, he, hv, val]
theorem seq_run {P : Program} {t : TypeId} {a b : Operand} {x y : ByteArray} {r : Bool} (h : decide (x = y) = r) : prun P (do eqGuard .eql t a b (.string x) (.string y); Go.binOp .eql t (.string x) (.string y)) = some (.bool r) := by
  show prun P (Op.stringOp .eql x y) = _
  unfold Op.stringOp
  show some (Value.bool (x.toList == y.toList)) = _
  rw [← h]
  congr 2
  rw [ByteArray.toList_eq, ByteArray.toList_eq]
  by_cases e : x = y
  · subst e; simp
  · have : ¬ x.data = y.data := fun e2 => e (by cases x; cases y; congr 1)
    simp [e, this]
theorem sne_run {P : Program} {t : TypeId} {a b : Operand} {x y : ByteArray} {r : Bool} (h : decide (x = y) = !r) : prun P (do eqGuard .neq t a b (.string x) (.string y); Go.binOp .neq t (.string x) (.string y)) = some (.bool r) := by
  show prun P (Op.stringOp .neq x y) = _
  unfold Op.stringOp
  show some (Value.bool !(x.toList == y.toList)) = _
  have h2 : (x.toList == y.toList) = !r := by
    rw [← h, ByteArray.toList_eq, ByteArray.toList_eq]
    by_cases e : x = y
    · subst e; simp
    · have : ¬ x.data = y.data := fun e2 => e (by cases x; cases y; congr 1)
      simp [e, this]
  rw [h2, Bool.not_not]
/-- Bytes that are known. -/
def bytesN : List SV → Option (List Nat)
  | [] => some []
  | .n .u8 a :: r => match bytesN r with
    | some l => bif a.blt 256 then some (a :: l) else none
    | none => none
  | _ => none
theorem bytesN_spec (ρ : Nat → Nat) : ∀ {l : List SV} {q : List Nat}, bytesN l = some q → l.map (byteOf ρ) = q.map UInt8.ofNat ∧ ∀ a ∈ q, a < 256 := by
  intro l
  induction l with
  | nil => intro q h; cases h; exact ⟨rfl, fun a ha => by cases ha⟩
  | cons v l ih =>
    intro q h
    unfold bytesN at h
    split at h
    · rename_i e; cases e
    · rename_i a r e
      cases e
      split at h
      · rename_i q' hq
        cases hb : a.blt 256 <;> rw [hb] at h <;> cases h
        obtain ⟨h1, h2⟩ := ih hq
        refine ⟨by rw [List.map_cons, List.map_cons, h1]; rfl, fun x hx => ?_⟩
        rcases List.mem_cons.1 hx with rfl | hx
        · exact blt_lt hb
        · exact h2 x hx
      · cases h
    · cases h
def natsEq : List Nat → List Nat → Bool
  | [], [] => true
  | a :: r, b :: q => a.beq b && natsEq r q
  | _, _ => false
theorem natsEq_spec : ∀ {p q : List Nat}, (∀ a ∈ p, a < 256) → (∀ a ∈ q, a < 256) → decide ((⟨⟨p.map UInt8.ofNat⟩⟩ : ByteArray) = ⟨⟨q.map UInt8.ofNat⟩⟩) = natsEq p q := by
  have key : ∀ {p q : List Nat}, (∀ a ∈ p, a < 256) → (∀ a ∈ q, a < 256) → (p.map UInt8.ofNat = q.map UInt8.ofNat ↔ natsEq p q = true) := by
    intro p
    induction p with
    | nil => intro q _ _; cases q <;> simp [natsEq]
    | cons a p ih =>
      intro q hp hq
      cases q with
      | nil => simp [natsEq]
      | cons b q =>
        simp only [List.map_cons, List.cons.injEq, natsEq, Bool.and_eq_true, Nat.beq_eq]
        rw [ih (fun x hx => hp x (List.mem_cons_of_mem _ hx)) (fun x hx => hq x (List.mem_cons_of_mem _ hx))]
        have ha := hp a List.mem_cons_self
        have hb := hq b List.mem_cons_self
        constructor
        · rintro ⟨e, h⟩
          refine ⟨?_, h⟩
          have := congrArg UInt8.toNat e
          simpa [Nat.mod_eq_of_lt ha, Nat.mod_eq_of_lt hb] using this
        · rintro ⟨rfl, h⟩; exact ⟨rfl, h⟩
  intro p q hp hq
  cases hb : natsEq p q
  · refine decide_eq_false fun e => ?_
    have e2 := congrArg (fun x : ByteArray => x.data.toList) e
    simp only at e2
    rw [(key hp hq).1 e2] at hb; cases hb
  · refine decide_eq_true ?_
    rw [(key hp hq).2 hb]
/-- Are two bytes the same? -/
def by0 (G : List Asm) (u v : SV) (X Y : Bool) : Bool := bnd (wOf u) fun p => bnd (wOf v) fun q => ifK (Nat.blt (hiW p.2) 256) (ifK (Nat.blt (hiW q.2) 256) (bnd (eqW G p.2 q.2) fun b => ifK b X Y) false) false
def byEq (G : List Asm) (u v : SV) (X Y : Bool) : Bool := Nn.rec (motive := fun _ => Bool) (by0 G u v X Y) (fun _ p => Nn.rec (motive := fun _ => Bool) (by0 G u v X Y) (fun _ q => ifK (Nat.ble (Nat.succ p) 256) (ifK (Nat.ble (Nat.succ q) 256) (ifK (Nat.beq p q) X Y) false) false) (asN v)) (asN u)
theorem ofNat_inj8 {a b : Nat} (ha : a < 256) (hb : b < 256) (h : UInt8.ofNat a = UInt8.ofNat b) : a = b := by
  have := congrArg UInt8.toNat h
  simpa [Nat.mod_eq_of_lt ha, Nat.mod_eq_of_lt hb] using this
theorem byteOf_w (ρ : Nat → Nat) {v : SV} {p : IntKind × W} (h : wOf v = some p) : byteOf ρ v = UInt8.ofNat (evW ρ p.2) := by
  unfold wOf at h
  split at h <;> cases h
  · simp only [byteOf, litW_ev]
  · rfl
theorem by0_true {ρ : Nat → Nat} {G : List Asm} (hG : ∀ a ∈ G, a.ok ρ) {u v : SV} {X Y : Bool} (h : by0 G u v X Y = true) : (byteOf ρ u = byteOf ρ v ∧ X = true) ∨ (byteOf ρ u ≠ byteOf ρ v ∧ Y = true) := by
  obtain ⟨p, h1, h⟩ := bnd_true (r := wOf u) h
  obtain ⟨q, h2, h⟩ := bnd_true (r := wOf v) h
  obtain ⟨h3, h⟩ := ifF_true h
  obtain ⟨h4, h⟩ := ifF_true h
  obtain ⟨b, h5, h⟩ := bnd_true (r := eqW G p.2 q.2) h
  have h6 := eqW_spec hG h5
  have hp := Nat.lt_of_le_of_lt (boundsW ρ p.2).2 (blt_lt h3)
  have hq := Nat.lt_of_le_of_lt (boundsW ρ q.2).2 (blt_lt h4)
  rw [byteOf_w ρ h1, byteOf_w ρ h2]
  rcases ifK_true h with ⟨rfl, h⟩ | ⟨rfl, h⟩
  · exact .inl ⟨by rw [of_decide_eq_true h6], h⟩
  · exact .inr ⟨fun e => of_decide_eq_false h6 (ofNat_inj8 hp hq e), h⟩
theorem byEq_true {ρ : Nat → Nat} {G : List Asm} (hG : ∀ a ∈ G, a.ok ρ) {u v : SV} {X Y : Bool} (h : byEq G u v X Y = true) : (byteOf ρ u = byteOf ρ v ∧ X = true) ∨ (byteOf ρ u ≠ byteOf ρ v ∧ Y = true) := by
  unfold byEq at h
  cases hu : asN u with
  | no => rw [hu] at h; exact by0_true hG h
  | yes k p =>
    rw [hu] at h
    cases hv : asN v with
    | no => rw [hv] at h; exact by0_true hG h
    | yes k' q =>
      rw [hv] at h
      obtain ⟨h3, k1⟩ := ifF_true h
      obtain ⟨h4, k2⟩ := ifF_true k1
      obtain rfl := asN_yes hu
      obtain rfl := asN_yes hv
      rcases ifK_true k2 with ⟨h5, h⟩ | ⟨h5, h⟩
      · exact .inl ⟨by rw [byteOf, byteOf, Nat.eq_of_beq_eq_true h5], h⟩
      · exact .inr ⟨fun e => Nat.ne_of_beq_eq_false h5 (ofNat_inj8 (Nat.le_of_ble_eq_true h3) (Nat.le_of_ble_eq_true h4) e), h⟩
def seqK (G : List Asm) (l : List SV) (X Y : Bool) : List SV → Bool := List.rec (motive := fun _ => List SV → Bool) (fun l' => List.rec (motive := fun _ => Bool) X (fun _ _ _ => Y) l') (fun u _ ih l' => List.rec (motive := fun _ => Bool) Y (fun v r _ => byEq G u v (ih r) Y) l') l
theorem seqK_true {ρ : Nat → Nat} {G : List Asm} (hG : ∀ a ∈ G, a.ok ρ) {X Y : Bool} : ∀ {l l' : List SV}, seqK G l X Y l' = true → (l.map (byteOf ρ) = l'.map (byteOf ρ) ∧ X = true) ∨ (l.map (byteOf ρ) ≠ l'.map (byteOf ρ) ∧ Y = true) := by
  intro l
  induction l with
  | nil =>
    intro l' h
    cases l' with
    | nil => exact .inl ⟨rfl, h⟩
    | cons v r => exact .inr ⟨by simp, h⟩
  | cons u l ih =>
    intro l' h
    cases l' with
    | nil => exact .inr ⟨by simp, h⟩
    | cons v r =>
      have h : byEq G u v (seqK G l X Y r) Y = true := h
      rcases byEq_true hG h with ⟨h1, h⟩ | ⟨h1, h⟩
      · rcases ih h with ⟨h2, h⟩ | ⟨h2, h⟩
        · exact .inl ⟨by rw [List.map_cons, List.map_cons, h1, h2], h⟩
        · exact .inr ⟨fun e => h2 (by rw [List.map_cons, List.map_cons] at e; exact (List.cons.inj e).2), h⟩
      · exact .inr ⟨fun e => h1 (by rw [List.map_cons, List.map_cons] at e; exact (List.cons.inj e).1), h⟩
def strK (G : List Asm) (op : BinOp) (l : List SV) (v : SV) (K : SV → Bool) : Bool := match v with
  | .st l' => (match op with
    | .eql => seqK G l (K .t) (K .f) l'
    | .neq => seqK G l (K .f) (K .t) l'
    | _ => false)
  | _ => false
theorem strK_true {ρ : Nat → Nat} {G : List Asm} (hG : ∀ a ∈ G, a.ok ρ) {P : Program} {T : Tab} {tm : Tr Value} {o : Oper} {H : Heap} {op : BinOp} {ty t2 : TypeId} {a b : Operand} {l : List SV} {v : SV} {K : SV → Bool} (ho : o.op = .binOp op ty a b t2) (hx : aeval tm a = some ((SV.st l).inst ρ)) (hy : aeval tm b = some (v.inst ρ)) (h : strK G op l v K = true) :
    ∃ s, aop P T tm o H = some (.val (SV.inst ρ s), H) ∧ K s = true := by
  unfold strK at h
  split at h
  · rename_i l'
    have arr : ∀ {p q : List UInt8}, (⟨⟨p⟩⟩ : ByteArray) = ⟨⟨q⟩⟩ → p = q := fun {p q} e => congrArg (fun x : ByteArray => x.data.toList) e
    split at h
    · rcases seqK_true hG h with ⟨h1, h⟩ | ⟨h1, h⟩
      · exact ⟨.t, fb_bin ho hx hy rfl rfl rfl (seq_run (decide_eq_true (by rw [h1]))) rfl (fun xs e => by cases e), h⟩
      · exact ⟨.f, fb_bin ho hx hy rfl rfl rfl (seq_run (decide_eq_false fun e => h1 (arr e))) rfl (fun xs e => by cases e), h⟩
    · rcases seqK_true hG h with ⟨h1, h⟩ | ⟨h1, h⟩
      · exact ⟨.f, fb_bin ho hx hy rfl rfl rfl (sne_run (decide_eq_true (by rw [h1]))) rfl (fun xs e => by cases e), h⟩
      · exact ⟨.t, fb_bin ho hx hy rfl rfl rfl (sne_run (decide_eq_false fun e => h1 (arr e))) rfl (fun xs e => by cases e), h⟩
    · cases h
  · cases h
/-! Structs -/
def plainS : SV → Bool
  | .n _ _ | .z _ _ | .w _ _ | .t | .f | .np | .ns | .nm | .nf | .st _ => true
  | _ => false
theorem plainS_spec (ρ : Nat → Nat) {v : SV} (h : plainS v = true) : plain (v.inst ρ) = true := by
  cases v <;> first | rfl | (cases h; done)
theorem plainL_spec (ρ : Nat → Nat) : ∀ {l : List SV}, l.all plainS = true → closed (.agg ⟨instL ρ l⟩) = true := by
  intro l
  show _ → (instL ρ l).all plain = true
  induction l with
  | nil => intro _; rfl
  | cons v l ih =>
    intro h
    rw [List.all_cons, Bool.and_eq_true] at h
    rw [instL, List.all_cons, plainS_spec ρ h.1, ih h.2]; rfl
def eqS (G : List Asm) (d : Option TypeDesc) (u v : SV) : Option Bool := match d with
  | some (.int _) => (match wOf u, wOf v with
    | some (k, x), some (k', y) => bif k == k' then eqW G x y else none
    | _, _ => none)
  | some .bool => (match u, v with
    | .t, .t => some true
    | .f, .f => some true
    | .t, .f => some false
    | .f, .t => some false
    | _, _ => none)
  | _ => none
def saeqF (P : Program) (G : List Asm) (xs ys : List SV) : List Field → Option Bool
  | [] => some true
  | f :: r => bif f.name == "_" then none else match xs[f.offset]?, ys[f.offset]?, saeqF P G xs ys r with
    | some u, some v, some q => match eqS G (P.underlying f.type) u v with
      | some b => some (b && q)
      | none => none
    | _, _, _ => none
theorem saeqF_spec {ρ : Nat → Nat} {P : Program} {G : List Asm} (hG : ∀ a ∈ G, a.ok ρ) {xs ys : List SV} : ∀ {fs : List Field} {b : Bool}, saeqF P G xs ys fs = some b → aeqF P ⟨instL ρ xs⟩ ⟨instL ρ ys⟩ fs = some b := by
  intro fs
  induction fs with
  | nil => intro b h; exact h
  | cons f r ih =>
    intro b h
    simp only [saeqF] at h
    simp only [aeqF]
    cases hn : f.name == "_" <;> rw [hn] at h
    · simp only [cond_false] at h ⊢
      split at h
      · rename_i u v q hu hv hq
        have ih := ih hq
        have hu' : (⟨instL ρ xs⟩ : Array Value)[f.offset]? = some (u.inst ρ) := by
          simp only [List.getElem?_toArray, instL_map, List.getElem?_map, hu, Option.map_some]
        have hv' : (⟨instL ρ ys⟩ : Array Value)[f.offset]? = some (v.inst ρ) := by
          simp only [List.getElem?_toArray, instL_map, List.getElem?_map, hv, Option.map_some]
        rw [ih, hu', hv']
        split at h
        · rename_i b' hb
          cases h
          unfold eqS at hb
          split at hb
          · rename_i k0 hd
            rw [hd]
            split at hb
            · rename_i k x k' y hx hy
              rw [wOf_inst ρ hx, wOf_inst ρ hy]
              simp only
              cases hk : k == k' <;> rw [hk] at hb
              · cases hb
              · have := eqW_spec hG hb
                simp only [cond_true]
                congr 2
                rw [← this, nbeq_dec]
                cases hc : Nat.beq (evW ρ x) (evW ρ y)
                · exact (decide_eq_false (Nat.ne_of_beq_eq_false hc)).symm
                · exact (decide_eq_true (Nat.eq_of_beq_eq_true hc)).symm
            · cases hb
          · rename_i hd
            rw [hd]
            split at hb <;> cases hb <;> rfl
          · cases hb
        · cases h
      · cases h
    · cases h
def agK (P : Program) (G : List Asm) (op : BinOp) (ty : TypeId) (l : List SV) (v : SV) (K : SV → Bool) : Bool := match v with
  | .ag l' => ifK (l.all plainS && l'.all plainS) (ifK (isStr (P.underlying ty) && !P.stoodInHeld ty && !P.eqGuardType P.depth ty) (bnd (saeqF P G l l' (fsOf P ty)) fun q => match op with
    | .eql => ifK q (K .t) (K .f)
    | .neq => ifK q (K .f) (K .t)
    | _ => false) false) false
  | _ => false
theorem agK_true {ρ : Nat → Nat} {P : Program} {T : Tab} {G : List Asm} (hG : ∀ a ∈ G, a.ok ρ) {tm : Tr Value} {o : Oper} {H : Heap} {op : BinOp} {ty t2 : TypeId} {a b : Operand} {l : List SV} {v : SV} {K : SV → Bool} (ho : o.op = .binOp op ty a b t2) (hx : aeval tm a = some ((SV.ag l).inst ρ)) (hy : aeval tm b = some (v.inst ρ)) (h : agK P G op ty l v K = true) :
    ∃ s, aop P T tm o H = some (.val (SV.inst ρ s), H) ∧ K s = true := by
  unfold agK at h
  split at h
  · rename_i l'
    rcases ifK_true h with ⟨h1, h⟩ | ⟨_, h⟩
    rotate_left
    · cases h
    rcases ifK_true h with ⟨h2, h⟩ | ⟨_, h⟩
    rotate_left
    · cases h
    obtain ⟨q, h3, h⟩ := bnd_true (r := saeqF P G l l' (fsOf P ty)) h
    simp only [Bool.and_eq_true] at h1
    have hq := saeqF_spec hG h3
    have c1 := plainL_spec ρ h1.1
    have c2 := plainL_spec ρ h1.2
    have e1 : (SV.ag l).inst ρ = .agg ⟨instL ρ l⟩ := rfl
    have e2 : (SV.ag l').inst ρ = .agg ⟨instL ρ l'⟩ := rfl
    rw [e1] at hx
    rw [e2] at hy
    have fin : ∀ r : Bool, aggEq P tm o = some (.bool r) → aop P T tm o H = some (.val (.bool r), H) := fun r hr => by
      unfold aop
      simp only [ho, hx, hy]
      have : abin T op ty (.agg ⟨instL ρ l⟩) (.agg ⟨instL ρ l'⟩) = none := rfl
      simp only [this, orVal, fallback, hr, ho, Op.operands, List.all_cons, List.all_nil, dataAt, hx, hy, c1, c2, Bool.and_self, cond_true, val]
    split at h
    · refine ⟨bSV q, ?_, by rcases ifK_true h with ⟨h4, h⟩ | ⟨h4, h⟩ <;> (rw [h4]; exact h)⟩
      rw [bSV_inst]
      refine fin q ?_
      unfold aggEq
      simp only [ho, hx, hy, h2, cond_true, hq]
    · refine ⟨bSV !q, ?_, by rcases ifK_true h with ⟨h4, h⟩ | ⟨h4, h⟩ <;> (rw [h4]; exact h)⟩
      rw [bSV_inst]
      refine fin (!q) ?_
      unfold aggEq
      simp only [ho, hx, hy, h2, cond_true, hq]
    · cases h
  · cases h
def binS (E : Env) (op : BinOp) (ty : TypeId) (u v : SV) (K : SV → Bool) : Bool := match u with
  | .st l => strK E.G op l v K
  | .ag l => agK E.P E.G op ty l v K
  | u => binK E.G E.T op ty u v K
def binJ (E : Env) (op : BinOp) (ty : TypeId) (u v : SV) (K : SV → Bool) : Bool := Nn.rec (motive := fun _ => Bool) (binS E op ty u v K) (fun k a => Nn.rec (motive := fun _ => Bool) (binS E op ty u v K) (fun k' b => Bx.rec (motive := fun _ => Bool) (fun g => g k k' a b K) (natB op)) (asN v)) (asN u)
def hBin (op : BinOp) (ty : TypeId) (x y : Operand) : Hd := fun E tm o t n K => evK x tm fun u => evK y tm fun v => binJ E op ty u v fun s => K s t n
theorem hBin_ok {ρ : Nat → Nat} {E : Env} (hE : EnvOk ρ E) (op : BinOp) (ty t2 : TypeId) (x y : Operand) : HdOk ρ E (.binOp op ty x y t2) (hBin op ty x y) := by
  intro tm tr hT o t n K ho h
  obtain ⟨u, h1, h⟩ := evK_true hT h
  obtain ⟨v, h2, h⟩ := evK_true hT h
  have slow : (binS E op ty u v fun s => K s t n) = true → OpV ρ E tr o t n K := fun h => by
    unfold binS at h
    split at h
    · obtain ⟨s, h3, h⟩ := strK_true hE.G (P := E.P) (T := E.T) (H := instH ρ t n) ho h1 h2 h
      exact opV s h3 h
    · obtain ⟨s, h3, h⟩ := agK_true hE.G (P := E.P) (T := E.T) (H := instH ρ t n) ho h1 h2 h
      exact opV s h3 h
    · obtain ⟨s, h3, h⟩ := binK_true hE.G h
      exact opV s (by unfold aop; simp only [ho, h1, h2, h3, orVal, val]) h
  unfold binJ at h
  cases hu : asN u with
  | no => rw [hu] at h; exact slow h
  | yes k a =>
    rw [hu] at h
    cases hv : asN v with
    | no => rw [hv] at h; exact slow h
    | yes k' b =>
      rw [hv] at h
      obtain ⟨s, h3, h4⟩ := natB_true ρ (T := E.T) (ty := ty) h
      obtain rfl := asN_yes hu
      obtain rfl := asN_yes hv
      exact opV s (by unfold aop; simp only [ho, h1, h2, SV.inst]; rw [h3]; rfl) h4
/-! Changes of type -/
def intD : Option TypeDesc → Option IntKind | some (.int k) => some k | _ => none
theorem intD_spec {d : Option TypeDesc} {k : IntKind} (h : intD d = some k) : d = some (.int k) := by
  unfold intD at h
  split at h
  · cases h; rfl
  · cases h
def hasD (T : Tab) (s : TypeId) : Bool := match T.under s with | some _ => true | none => false
theorem hasD_spec {T : Tab} {s : TypeId} (h : hasD T s = true) : ∃ d, T.under s = some d := by
  unfold hasD at h
  split at h
  · exact ⟨_, by assumption⟩
  · cases h
def wrapK (k : IntKind) (z : Int) (K : SV → Bool) : Bool := bnd (cv0 (.int k (k.wrap z))) fun s => fSV s K
def byte1 (v : SV) (K : Bool) : Bool := match v with
  | .n .u8 _ => K
  | .w .u8 _ => K
  | _ => false
def byteLK (l : List SV) (K : Bool) : Bool := List.rec (motive := fun _ => Bool) K (fun v _ ih => byte1 v ih) l
theorem bytesOf_go (ρ : Nat → Nat) {K : Bool} : ∀ (l : List SV) (acc : ByteArray), byteLK l K = true → bytesOf.go (l.map (SV.inst ρ)) acc = some ⟨⟨acc.data.toList ++ l.map (byteOf ρ)⟩⟩ ∧ K = true := by
  intro l
  induction l with
  | nil => intro acc h; exact ⟨by simp [bytesOf.go], h⟩
  | cons v l ih =>
    intro acc h
    have h : byte1 v (byteLK l K) = true := h
    unfold byte1 at h
    have push : ∀ b : UInt8, (⟨⟨(acc.push b).data.toList ++ l.map (byteOf ρ)⟩⟩ : ByteArray) = ⟨⟨acc.data.toList ++ b :: l.map (byteOf ρ)⟩⟩ := fun b => by
      simp [ByteArray.push]
    split at h
    · rename_i a _
      obtain ⟨h1, h2⟩ := ih (acc.push (byteOf ρ (.n .u8 a))) h
      refine ⟨?_, h2⟩
      rw [List.map_cons, List.map_cons, ← push, ← h1]
      rfl
    · rename_i a _
      obtain ⟨h1, h2⟩ := ih (acc.push (byteOf ρ (.w .u8 a))) h
      refine ⟨?_, h2⟩
      rw [List.map_cons, List.map_cons, ← push, ← h1]
      rfl
    · cases h
theorem bytesOf_K (ρ : Nat → Nat) {K : Bool} {l : List SV} (h : byteLK l K = true) : bytesOf (l.map (SV.inst ρ)) = some ⟨⟨l.map (byteOf ρ)⟩⟩ ∧ K = true := by
  obtain ⟨h1, h2⟩ := bytesOf_go ρ l .empty h
  exact ⟨h1, h2⟩
def strD : Option TypeDesc → Bool | some .string => true | _ => false
def sliceU8 (T : Tab) (s : TypeId) : Bool := match T.under s with | some (.slice e) => isU8 (T.under e) | _ => false
def convK (T : Tab) (s d : TypeId) (v : SV) (t : HT) (K : SV → Bool) : Bool := match v with
  | .n _ a => ifK (hasD T s) (bnd (intD (T.under d)) fun k => ifK (Nat.blt a (lim k)) (K (.n k a)) (wrapK k (Int.ofNat a) K)) false
  | .z _ a => ifK (hasD T s) (bnd (intD (T.under d)) fun k => wrapK k (Int.negSucc a) K) false
  | .w _ x => ifK (hasD T s) (bnd (intD (T.under d)) fun k => bnd (wrapW k x) fun q => fSV (mkI k q) K) false
  | .ns => ifK (sliceU8 T s && strD (T.under d)) (K (.st [])) false
  | .sl b off n _ => ifK (sliceU8 T s && strD (T.under d)) (obK b t fun c e r => crK c off n fun l => byteLK l (K (.st l))) false
  | _ => false
theorem wrapK_true (ρ : Nat → Nat) {k : IntKind} {z : Int} {K : SV → Bool} (h : wrapK k z K = true) : ∃ s, (.int k (k.wrap z) : Value) = SV.inst ρ s ∧ K s = true := by
  obtain ⟨s, h1, h⟩ := bnd_true (r := cv0 (.int k (k.wrap z))) h
  rw [fSV_eq] at h
  exact ⟨s, (cv0_spec ρ h1).1.symm, h⟩
theorem convK_true (ρ : Nat → Nat) {T : Tab} {s d : TypeId} {v : SV} {t : HT} {n : Nat} {K : SV → Bool} (h : convK T s d v t K = true) : ∃ u, aconvert T s d (v.inst ρ) (instH ρ t n) = some (SV.inst ρ u) ∧ K u = true := by
  have two : ∀ {a b : Bool}, ifK a b false = true → a = true ∧ b = true := fun {a b} h => by
    cases a
    · cases h
    · exact ⟨rfl, h⟩
  have num : ∀ (q : IntKind) (z : Int) (k : IntKind), hasD T s = true → intD (T.under d) = some k → aconvert T s d (.int q z) (instH ρ t n) = some (.int k (k.wrap z)) := fun q z k h1 h2 => by
    obtain ⟨e, he⟩ := hasD_spec h1
    unfold aconvert
    simp only [he, intD_spec h2]
  unfold convK at h
  split at h
  · obtain ⟨h1, h⟩ := two h
    obtain ⟨k, h2, h⟩ := bnd_true (r := intD (T.under d)) h
    rcases ifK_true h with ⟨h3, h⟩ | ⟨_, h⟩
    · exact ⟨_, by rw [SV.inst, num _ _ k h1 h2, wrap_lim (blt_lt h3)]; rfl, h⟩
    · obtain ⟨u, h4, h⟩ := wrapK_true ρ h
      exact ⟨u, by rw [SV.inst, num _ _ k h1 h2, h4], h⟩
  · obtain ⟨h1, h⟩ := two h
    obtain ⟨k, h2, h⟩ := bnd_true (r := intD (T.under d)) h
    obtain ⟨u, h4, h⟩ := wrapK_true ρ h
    exact ⟨u, by rw [SV.inst, num _ _ k h1 h2, h4], h⟩
  · rename_i x
    obtain ⟨h1, h⟩ := two h
    obtain ⟨k, h2, h⟩ := bnd_true (r := intD (T.under d)) h
    obtain ⟨q, h3, h⟩ := bnd_true (r := wrapW k x) h
    rw [fSV_eq] at h
    exact ⟨_, by rw [SV.inst, num _ _ k h1 h2, wrapW_ev ρ h3, mkI_inst], h⟩
  · obtain ⟨h1, h⟩ := two h
    simp only [Bool.and_eq_true, sliceU8, strD] at h1
    obtain ⟨h1, h2⟩ := h1
    split at h1
    · rename_i e he
      split at h2
      · rename_i hd
        refine ⟨_, ?_, h⟩
        unfold aconvert
        simp only [he, hd, SV.inst, h1, cond_true]
        rfl
      · cases h2
    · cases h1
  · rename_i b off m cp
    obtain ⟨h1, h⟩ := two h
    simp only [Bool.and_eq_true, sliceU8, strD] at h1
    obtain ⟨h1, h2⟩ := h1
    split at h1
    · rename_i e he
      split at h2
      · rename_i hd
        obtain ⟨c, e', r, h3, h⟩ := obK_true h
        obtain ⟨h4, h⟩ := crK_true (c := c) (i := off) (n := m) (K := fun l => byteLK l (K (.st l))) h
        obtain ⟨h5, h⟩ := bytesOf_K ρ h
        refine ⟨_, ?_, h⟩
        unfold aconvert
        have e1 : ((c.toL.map (SV.inst ρ)).drop off).take m = ((c.toL.drop off).take m).map (SV.inst ρ) := by rw [List.map_take, List.map_drop]
        simp only [he, hd, SV.inst, h1, cond_true, h3 ρ n, e1, List.length_map, h4, Nat.beq_refl, h5]
      · cases h2
    · cases h1
  · cases h
def hConvert (s d : TypeId) (x : Operand) : Hd := fun E tm o t n K => evK x tm fun v => convK E.T s d v t fun u => K u t n
theorem hConvert_ok (ρ : Nat → Nat) (E : Env) (s d : TypeId) (x : Operand) : HdOk ρ E (.convert s d x) (hConvert s d x) := by
  intro tm tr hT o t n K ho h
  obtain ⟨v, h1, h⟩ := evK_true hT h
  obtain ⟨u, h2, h⟩ := convK_true ρ (n := n) h
  exact opV u (by unfold aop; simp only [ho, h1, h2, orVal, val]) h
end
end Go.Ev
/- Operations on values that are not known whole: places, slices, rows. -/
namespace Go.Ev
open Go
set_option linter.unusedVariables false
set_option linter.unusedSimpArgs false
set_option linter.constructorNameAsVariable false
noncomputable section
/-- Has a block so many cells? -/
def leK (c : Cs) (i : Nat) (K : Bool) : Bool := Nat.rec (motive := fun _ => Bool) K (fun j _ => cgK c j fun _ => K) i
theorem leK_true {c : Cs} {i : Nat} {K : Bool} (h : leK c i K = true) : i ≤ c.toL.length ∧ K = true := by
  cases i with
  | zero => exact ⟨Nat.zero_le _, h⟩
  | succ j =>
    obtain ⟨v, h1, h2⟩ := cgK_true (c := c) (i := j) (K := fun _ => K) h
    exact ⟨(List.getElem?_eq_some_iff.1 h1).1, h2⟩
def natK (v : SV) (K : Nat → Bool) : Bool := Nn.rec (motive := fun _ => Bool) false (fun _ a => K a) (asN v)
theorem natK_true {v : SV} {K : Nat → Bool} (h : natK v K = true) : ∃ k a, v = .n k a ∧ K a = true := by
  unfold natK at h
  cases hv : asN v with
  | no => rw [hv] at h; cases h
  | yes k a => rw [hv] at h; exact ⟨k, a, asN_yes hv, h⟩
/-! Places of elements -/
def elI (T : Tab) (t : TypeId) : Option (Bool × Nat × Nat) := match T.under t with
  | some (.slice e) => match T.size e with
    | some n => some (true, 0, n)
    | none => none
  | some (.array len e) => match T.size e with
    | some n => some (false, len, n)
    | none => none
  | _ => none
def ixK (T : Tab) (t : TypeId) (u : SV) (i : Nat) (K : SV → Bool) : Bool := bnd (elI T t) fun q => match q with
  | (true, _, n) => (match u with
    | .sl b off len _ => ifK (Nat.blt i len) (fN (Nat.add off (Nat.mul i n)) fun o => K (.p b o)) false
    | _ => false)
  | (false, len, n) => (match u with
    | .p b off => ifK (Nat.blt i len) (fN (Nat.add off (Nat.mul i n)) fun o => K (.p b o)) false
    | _ => false)
theorem ixK_true (ρ : Nat → Nat) {T : Tab} {t : TypeId} {u : SV} {k : IntKind} {i : Nat} {K : SV → Bool} (h : ixK T t u i K = true) : ∃ s, aindexAddr T t (u.inst ρ) (.int k (.ofNat i)) = some (SV.inst ρ s) ∧ K s = true := by
  obtain ⟨q, h1, h⟩ := bnd_true (r := elI T t) h
  unfold elI at h1
  split at h1
  · rename_i e hu
    split at h1
    · rename_i n hs
      cases h1
      simp only at h
      split at h
      · obtain ⟨h2, h⟩ := ifF_true h
        rw [fN_eq] at h
        exact ⟨_, by simp only [aindexAddr, hu, SV.inst, hs, h2, cond_true]; rfl, h⟩
      · cases h
    · cases h1
  · rename_i len e hu
    split at h1
    · rename_i n hs
      cases h1
      simp only at h
      split at h
      · obtain ⟨h2, h⟩ := ifF_true h
        rw [fN_eq] at h
        exact ⟨_, by simp only [aindexAddr, hu, SV.inst, hs, h2, cond_true]; rfl, h⟩
      · cases h
    · cases h1
  · cases h1
def iaJ (E : Env) (ty : TypeId) (u v : SV) (K : SV → Bool) : Bool := natK v fun i => ixK E.T ty u i K
def hIndexAddr (ty : TypeId) (x ix : Operand) : Hd := fun E tm o t n K => evK x tm fun u => evK ix tm fun v => iaJ E ty u v fun s => K s t n
theorem hIndexAddr_ok (ρ : Nat → Nat) (E : Env) (ty : TypeId) (x ix : Operand) : HdOk ρ E (.indexAddr ty x ix) (hIndexAddr ty x ix) := by
  intro tm tr hT o t n K ho h
  obtain ⟨u, h1, h⟩ := evK_true hT h
  obtain ⟨v, h2, h⟩ := evK_true hT h
  obtain ⟨k, i, rfl, h'⟩ := natK_true h
  obtain ⟨s, h3, h⟩ := ixK_true ρ (k := k) h'
  exact opV s (by unfold aop; simp only [ho, h1, h2]; rw [SV.inst, h3]; rfl) h
def arI (T : Tab) (t : TypeId) : Option (Nat × Nat × (Bool × Nat)) := match T.under t with
  | some (.array len e) => match T.size e, ldI T e with
    | some n, some p => some (len, n, p)
    | _, _ => none
  | _ => none
def ixJ (E : Env) (ty : TypeId) (u v : SV) (K : SV → Bool) : Bool := aggK u fun l => natK v fun i => bnd (arI E.T ty) fun q => ifK (Nat.blt i q.1) (apK l (Nat.mul i q.2.1) q.2.2 K) false
def hIndex (ty : TypeId) (x ix : Operand) : Hd := fun E tm o t n K => evK x tm fun u => evK ix tm fun v => ixJ E ty u v fun s => K s t n
theorem hIndex_ok (ρ : Nat → Nat) (E : Env) (ty : TypeId) (x ix : Operand) : HdOk ρ E (.index ty x ix) (hIndex ty x ix) := by
  intro tm tr hT o t n K ho h
  obtain ⟨u, h1, h⟩ := evK_true hT h
  obtain ⟨v, h2, h⟩ := evK_true hT h
  obtain ⟨l, rfl, h⟩ := aggK_true h
  obtain ⟨k, i, rfl, h⟩ := natK_true h
  obtain ⟨⟨len, m, p⟩, h3, h⟩ := bnd_true (r := arI E.T ty) h
  obtain ⟨h4, h⟩ := ifF_true h
  unfold arI at h3
  split at h3
  · rename_i len' e hu
    split at h3
    · rename_i m' p' hs hp
      cases h3
      obtain ⟨s, h5, h⟩ := apK_true ρ hp h
      refine opV s ?_ h
      have : aindex E.T ty ((SV.ag l).inst ρ) ((SV.n k i).inst ρ) = some (s.inst ρ) := by
        simp only [aindex, SV.inst, hu, hs]
        have h4 : Nat.blt i len = true := h4
        rw [h4, cond_true]; exact h5
      unfold aop
      simp only [ho, h1, h2, this, orVal, val]
    · cases h3
  · cases h3
/-! Slices of slices -/
def boundK (v : Option SV) (d : Nat) (K : Nat → Bool) : Bool := match v with
  | none => K d
  | some (.n _ a) => K a
  | _ => false
def loV (v : Option Value) (d : Nat) : Option Nat := match v with
  | none => some d
  | some (.int _ (.ofNat l)) => some l
  | _ => none
theorem boundK_true (ρ : Nat → Nat) {v : Option SV} {d : Nat} {K : Nat → Bool} (h : boundK v d K = true) : ∃ a, loV (v.map (SV.inst ρ)) d = some a ∧ K a = true := by
  unfold boundK at h
  split at h
  · exact ⟨d, rfl, h⟩
  · exact ⟨_, rfl, h⟩
  · cases h
theorem aslice_eq (T : Tab) (t : TypeId) (x : Value) (lo hi : Option Value) : aslice T t x lo hi none = (match T.under t, x with
    | some (.slice e), .slice a len cap =>
      match T.size e, loV lo 0, loV hi len with
      | some size, some l, some h =>
        bif l.ble h then
          bif unk.ble cap then
            match a with
            | some ⟨b, off, none⟩ => bif h.ble len && cap.beq (unk + size) then some (.slice (some ⟨b, off + l * size, none⟩) (h - l) (unk + size)) else none
            | _ => none
          else bif h.ble cap then some (.slice (bif cap.beq l then a else a.map (·.add (l * size))) (h - l) (cap - l)) else none
        else none
      | _, _, _ => none
    | some (.array n e), .pointer (some ⟨b, off, none⟩) =>
      match T.size e, loV lo 0, loV hi n with
      | some size, some l, some h =>
        bif l.ble h && h.ble n && n.blt unk then some (.slice (some (bif n.beq l then ⟨b, off, none⟩ else (⟨b, off, none⟩ : Addr).add (l * size))) (h - l) (n - l)) else none
      | _, _, _ => none
    | _, _ => none) := by
  unfold aslice loV
  rfl
def slK (T : Tab) (t : TypeId) (v : SV) (lo hi : Option SV) (K : SV → Bool) : Bool := bnd (elI T t) fun q => match q with
  | (true, _, size) => (match v with
    | .sl b off len cap => boundK lo 0 fun l => boundK hi len fun h => ifK (l.ble h) (ifK (unk.ble cap)
        (ifK (h.ble len && cap.beq (unk + size)) (fN (Nat.add off (Nat.mul l size)) fun o => fN (Nat.sub h l) fun m => K (.sl b o m cap)) false)
        (ifK (h.ble cap) (fN (Nat.sub h l) fun m => fN (Nat.sub cap l) fun c => ifK (cap.beq l) (K (.sl b off m c)) (fN (Nat.add off (Nat.mul l size)) fun o => K (.sl b o m c))) false)) false
    | .ns => boundK lo 0 fun l => boundK hi 0 fun h => ifK (l.beq 0 && h.beq 0) (K .ns) false
    | _ => false)
  | (false, n, size) => (match v with
    | .p b off => boundK lo 0 fun l => boundK hi n fun h => ifK (l.ble h && h.ble n && n.blt unk) (fN (Nat.sub h l) fun m => fN (Nat.sub n l) fun c => ifK (n.beq l) (K (.sl b off m c)) (fN (Nat.add off (Nat.mul l size)) fun o => K (.sl b o m c))) false
    | _ => false)
theorem addr_add (b off k : Nat) : (⟨b, off, none⟩ : Addr).add k = ⟨b, off + k, none⟩ := by
  unfold Addr.add
  split
  · subst k; rfl
  · rfl
theorem slK_true (ρ : Nat → Nat) {T : Tab} {t : TypeId} {v : SV} {lo hi : Option SV} {K : SV → Bool} (h : slK T t v lo hi K = true) : ∃ s, aslice T t (v.inst ρ) (lo.map (SV.inst ρ)) (hi.map (SV.inst ρ)) none = some (SV.inst ρ s) ∧ K s = true := by
  rw [aslice_eq]
  obtain ⟨q, h1, h⟩ := bnd_true (r := elI T t) h
  unfold elI at h1
  split at h1
  · rename_i e hu
    split at h1
    · rename_i size hs
      cases h1
      simp only at h
      split at h
      · rename_i b off len cap _
        obtain ⟨l, h2, h⟩ := boundK_true ρ h
        obtain ⟨r, h3, h⟩ := boundK_true ρ h
        obtain ⟨h4, h⟩ := ifF_true h
        rcases ifK_true h with ⟨h5, h⟩ | ⟨h5, h⟩
        · obtain ⟨h6, h⟩ := ifF_true h
          rw [fN_eq, fN_eq] at h
          refine ⟨_, ?_, h⟩
          have h7 : cap = unk + size := by
            simp only [Bool.and_eq_true] at h6
            exact Nat.eq_of_beq_eq_true h6.2
          subst h7
          simp only [hu, SV.inst, hs, h2, h3, h4, h5, h6, cond_true]; rfl
        · obtain ⟨h6, h⟩ := ifF_true h
          rw [fN_eq, fN_eq] at h
          rcases ifK_true h with ⟨h7, h⟩ | ⟨h7, h⟩
          · exact ⟨_, by simp only [hu, SV.inst, hs, h2, h3, h4, h5, h6, h7, cond_true, cond_false]; rfl, h⟩
          · rw [fN_eq] at h
            exact ⟨_, by simp only [hu, SV.inst, hs, h2, h3, h4, h5, h6, h7, cond_true, cond_false, Option.map_some, addr_add]; rfl, h⟩
      · obtain ⟨l, h2, h⟩ := boundK_true ρ h
        obtain ⟨r, h3, h⟩ := boundK_true ρ h
        obtain ⟨h4, h⟩ := ifF_true h
        simp only [Bool.and_eq_true, Nat.beq_eq] at h4
        obtain ⟨rfl, rfl⟩ := h4
        exact ⟨.ns, by simp only [hu, SV.inst, hs, h2, h3]; rfl, h⟩
      · cases h
    · cases h1
  · rename_i len e hu
    split at h1
    · rename_i size hs
      cases h1
      simp only at h
      split at h
      · rename_i b off _
        obtain ⟨l, h2, h⟩ := boundK_true ρ h
        obtain ⟨r, h3, h⟩ := boundK_true ρ h
        obtain ⟨h4, h⟩ := ifF_true h
        rw [fN_eq, fN_eq] at h
        rcases ifK_true h with ⟨h7, h⟩ | ⟨h7, h⟩
        · exact ⟨_, by simp only [hu, SV.inst, hs, h2, h3, h4, h7, cond_true]; rfl, h⟩
        · rw [fN_eq] at h
          exact ⟨_, by simp only [hu, SV.inst, hs, h2, h3, h4, h7, cond_true, cond_false, addr_add]; rfl, h⟩
      · cases h
    · cases h1
  · cases h1
def hSlice (ty : TypeId) (x : Operand) (lo hi mx : Option Operand) : Hd := fun E tm o t n K => evK x tm fun v => evoK lo tm fun l => evoK hi tm fun h => match mx with
  | none => slK E.T ty v l h fun s => K s t n
  | some _ => false
theorem hSlice_ok (ρ : Nat → Nat) (E : Env) (ty : TypeId) (x : Operand) (lo hi mx : Option Operand) : HdOk ρ E (.slice ty x lo hi mx) (hSlice ty x lo hi mx) := by
  intro tm tr hT o t n K ho h
  obtain ⟨v, h1, h⟩ := evK_true hT h
  obtain ⟨l, h2, h⟩ := evoK_true hT h
  obtain ⟨r, h3, h⟩ := evoK_true hT h
  split at h
  · obtain ⟨s, h4, h⟩ := slK_true ρ h
    have h0 : aevalo tr none = some none := rfl
    exact opV s (by unfold aop; simp only [ho, h1, h2, h3, h0, h4, orVal, val]) h
  · cases h
/-! Rows of zeros -/
def runs : List SV → List (Nat × SV)
  | [] => []
  | v :: r => match v, runs r with
    | .n k a, (m, .n k' a') :: q => bif k == k' && a.beq a' then (m + 1, .n k a) :: q else (1, .n k a) :: (m, .n k' a') :: q
    | v, q => (1, v) :: q
theorem runs_base : ∀ l : List SV, baseL (runs l) = l := by
  intro l
  induction l with
  | nil => rfl
  | cons v r ih =>
    unfold runs
    split
    · rename_i k a m k' a' q hq
      rw [hq] at ih
      cases hb : k == k' && a.beq a'
      · simp only [cond_false]
        show [_] ++ baseL ((m, SV.n k' a') :: q) = _
        rw [ih]; rfl
      · simp only [Bool.and_eq_true, beq_iff_eq, Nat.beq_eq] at hb
        obtain ⟨rfl, rfl⟩ := hb
        simp only [cond_true]
        rw [← ih]
        simp [baseL, List.replicate_succ]
    · show [_] ++ baseL (runs r) = _
      rw [ih]; rfl
/-- A type's zeros as pieces. -/
def zeroP (E : Env) (e : TypeId) : Option (List (Nat × SV)) := match E.zt e with
  | some zs => some (Z0.ps zs)
  | none => match E.T.zero e with
    | some z => match cv z with
      | some s => some (runs (cellsV s))
      | none => none
    | none => none
theorem zeroP_spec {ρ : Nat → Nat} {E : Env} (hE : EnvOk ρ E) {e : TypeId} {zs : List (Nat × SV)} (h : zeroP E e = some zs) : ∃ z, E.T.zero e = some z ∧ closed z = true ∧ z.cells.toList = (baseL zs).map (SV.inst ρ) := by
  unfold zeroP at h
  split at h
  · rename_i zs' hz; cases h; exact ⟨_, hE.zt e zs' hz, closed_flat zs', flatZ_inst ρ zs'⟩
  · split at h
    · rename_i z hz
      split at h
      · rename_i s hs
        cases h
        obtain ⟨a, b⟩ := cv_spec ρ hs
        exact ⟨z, hz, b, by rw [runs_base, ← a, cellsV_inst]⟩
      · cases h
    · cases h
/-- So many of them. -/
def manyP (zs : List (Nat × SV)) (c : Nat) : List (Nat × SV) := match zs with
  | [(m, v)] => [(c * m, v)]
  | _ => (List.replicate c zs).flatten
theorem zerosOf_flat (z : List Value) (c : Nat) : zerosOf z c = (List.replicate c z).flatten := by
  unfold zerosOf
  split
  · rename_i v
    induction c with
    | zero => rfl
    | succ c ih => rw [List.replicate_succ, List.replicate_succ, List.flatten_cons, ih]; rfl
  · rfl
theorem baseL_app (a b : List (Nat × SV)) : baseL (a ++ b) = baseL a ++ baseL b := by simp [baseL]
theorem baseL_many (zs : List (Nat × SV)) (c : Nat) : baseL (manyP zs c) = (List.replicate c (baseL zs)).flatten := by
  have gen : baseL (List.replicate c zs).flatten = (List.replicate c (baseL zs)).flatten := by
    induction c with
    | zero => rfl
    | succ c ih => rw [List.replicate_succ, List.replicate_succ, List.flatten_cons, List.flatten_cons, baseL_app, ih]
  unfold manyP
  split
  · rename_i m v
    have : baseL [(c * m, v)] = List.replicate (c * m) v := by simp [baseL]
    rw [this]
    have e : baseL [(m, v)] = List.replicate m v := by simp [baseL]
    rw [e, List.flatten_replicate_replicate]
  · exact gen
/-- The cells of so many zeros. -/
def manyC (zs : List (Nat × SV)) (c : Nat) : Cs := match manyP zs c with
  | [(m, v)] => repC m v
  | ps => tabC (baseL ps)
theorem manyC_toL (zs : List (Nat × SV)) (c : Nat) : (manyC zs c).toL = baseL (manyP zs c) := by
  unfold manyC
  split
  · rename_i m v h; rw [h, repC_toL]; simp [baseL]
  · rw [tabC_toL]
def msI (T : Tab) (t : TypeId) : Option (TypeId × Nat) := match T.under t with
  | some (.slice e) => match T.bytes e, T.size e with
    | some by_, some (_ + 1) => some (e, by_)
    | _, _ => none
  | _ => none
def msJ (E : Env) (ty : TypeId) (u v : SV) (t : HT) (n : Nat) (K : KV) : Bool := natK u fun l => natK v fun c => bnd (msI E.T ty) fun q => bnd (zeroP E q.1) fun zs =>
  ifK (l.ble c && (Nat.mul q.2 c).ble 140737488355328 && c.ble 4611686018427387904) (pushK ⟨manyC zs c, q.1, false⟩ (.sl n 0 l c) t n K) false
def hMakeSlice (ty : TypeId) (l c : Operand) : Hd := fun E tm o t n K => evK l tm fun u => evK c tm fun v => msJ E ty u v t n K
theorem hMakeSlice_ok {ρ : Nat → Nat} {E : Env} (hE : EnvOk ρ E) (ty : TypeId) (l c : Operand) : HdOk ρ E (.makeSlice ty l c) (hMakeSlice ty l c) := by
  intro tm tr hT o t n K ho h
  obtain ⟨u, h1, h⟩ := evK_true hT h
  obtain ⟨v, h2, h⟩ := evK_true hT h
  obtain ⟨k, a, rfl, g1⟩ := natK_true h
  obtain ⟨k', b, rfl, g2⟩ := natK_true g1
  obtain ⟨⟨e, by_⟩, h3, h⟩ := bnd_true (r := msI E.T ty) g2
  obtain ⟨zs, h4, h⟩ := bnd_true (r := zeroP E e) h
  obtain ⟨h5, h⟩ := ifF_true h
  obtain ⟨t', ht, h⟩ := pushK_true h
  obtain ⟨z, z1, z2, z3⟩ := zeroP_spec hE h4
  unfold msI at h3
  split at h3
  · rename_i e' hu
    split at h3
    · rename_i by' m hb hs
      cases h3
      refine opV (.sl n 0 a b) (t' := t') (n' := n + 1) ?_ h
      have hc : zerosOf z.cells.toList b = (manyC zs b).toL.map (SV.inst ρ) := by
        rw [manyC_toL, baseL_many, zerosOf_flat, z3, List.map_flatten, List.map_replicate]
      have : amakeSlice E.T ty ((SV.n k a).inst ρ) ((SV.n k' b).inst ρ) (instH ρ t n) = some ((SV.sl n 0 a b).inst ρ, instH ρ t' (n + 1)) := by
        unfold amakeSlice
        have h5 : (a.ble b && (by_ * b).ble 140737488355328 && b.ble 4611686018427387904) = true := h5
        simp only [hu, SV.inst, nats, hb, hs, z1, z2, h5, Bool.and_true, cond_true, ht, SOb.inst, hc]
        rfl
      unfold aop
      simp only [ho, h1, h2, this, val2]
    · cases h3
  · cases h3
end
end Go.Ev
