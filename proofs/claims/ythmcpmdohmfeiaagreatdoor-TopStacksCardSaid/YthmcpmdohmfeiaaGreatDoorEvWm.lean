/- Operations on values that are not known whole: maps. -/
import Derived.Test.YthmcpmdohmfeiaaGreatDoorEvWk
namespace Go.Ev
open Go
set_option linter.unusedVariables false
set_option linter.unusedSimpArgs false
set_option linter.constructorNameAsVariable false
noncomputable section
abbrev SRow := SV × SV × Nat
def instR (ρ : Nat → Nat) (x : SRow) : Row := (x.1.inst ρ, x.2.1.inst ρ, x.2.2)
def smrows : List SV → Option (List SRow)
  | [] => some []
  | k :: v :: .n .i64 n :: r => match smrows r with | some l => some ((k, v, n) :: l) | none => none
  | _ => none
def smparse : List SV → Option (Nat × List SRow)
  | .n .i64 c :: r => match smrows r with | some l => some (c, l) | none => none
  | _ => none
def smlay (c : Nat) (l : List SRow) : List SV := .n .i64 c :: l.flatMap fun x => [x.1, x.2.1, .n .i64 x.2.2]
theorem smrows_inst (ρ : Nat → Nat) : ∀ (n : Nat) (l : List SV) (r : List SRow), l.length ≤ n → smrows l = some r → mrows (l.map (SV.inst ρ)) = some (r.map (instR ρ)) := by
  intro n
  induction n with
  | zero =>
    intro l r hl h
    cases l with
    | nil => cases h; rfl
    | cons a l => simp at hl
  | succ n ih =>
    intro l r hl h
    unfold smrows at h
    split at h
    · cases h; rfl
    · rename_i k v q r'
      split at h
      · rename_i l' hl'
        cases h
        simp only [List.length_cons] at hl
        have := ih r' l' (by omega) hl'
        simp only [List.map_cons, SV.inst]
        show mrows (k.inst ρ :: v.inst ρ :: .int .i64 (.ofNat q) :: r'.map (SV.inst ρ)) = _
        simp only [mrows, this]
        rfl
      · cases h
    · cases h
theorem smparse_inst (ρ : Nat → Nat) {l : List SV} {p : Nat × List SRow} (h : smparse l = some p) : mparse (l.map (SV.inst ρ)) = some (p.1, p.2.map (instR ρ)) := by
  unfold smparse at h
  split at h
  · rename_i c r
    split at h
    · rename_i l' hl'
      cases h
      have := smrows_inst ρ _ r l' (Nat.le_refl _) hl'
      simp only [List.map_cons, SV.inst, mparse, this]
    · cases h
  · cases h
theorem smlay_inst (ρ : Nat → Nat) (c : Nat) (l : List SRow) : (smlay c l).map (SV.inst ρ) = mlay c (l.map (instR ρ)) := by
  unfold smlay mlay mcells
  rw [List.map_cons]
  congr 1
  induction l with
  | nil => rfl
  | cons x l ih =>
    rw [List.flatMap_cons, List.map_append, ih]
    rfl
/-! Keys -/
def skeyEq (P : Program) (G : List Asm) (kt : TypeId) (u v : SV) : Option Bool := match P.underlying kt with
  | some (.int q) => (match wOf u, wOf v with
    | some (k, x), some (j, y) => bif k == q && j == q then eqW G x y else none
    | _, _ => none)
  | some (.struct fs) => (match u, v with
    | .ag a, .ag b => if P.stoodInHeld kt then none else saeqF P G a b fs.toList
    | _, _ => none)
  | _ => none
theorem skeyEq_inst {ρ : Nat → Nat} {P : Program} {G : List Asm} (hG : ∀ a ∈ G, a.ok ρ) {kt : TypeId} {u v : SV} {b : Bool} (h : skeyEq P G kt u v = some b) : keyEq P kt (u.inst ρ) (v.inst ρ) = some b := by
  unfold skeyEq at h
  split at h
  · rename_i q hd
    split at h
    · rename_i k x j y hx hy
      rw [wOf_inst ρ hx, wOf_inst ρ hy]
      cases hk : k == q && j == q <;> rw [hk] at h
      · cases h
      · have := eqW_spec hG h
        simp only [keyEq, hd, hk, cond_true]
        congr 1
        rw [← this, nbeq_dec]
        cases hc : Nat.beq (evW ρ x) (evW ρ y)
        · exact (decide_eq_false (Nat.ne_of_beq_eq_false hc)).symm
        · exact (decide_eq_true (Nat.eq_of_beq_eq_true hc)).symm
    · cases h
  · rename_i fs hd
    split at h
    · split at h
      · cases h
      · rename_i a b' hs
        have := saeqF_spec hG h
        simp only [keyEq, hd, SV.inst]
        rw [show P.stoodInHeld kt = false from by simpa using hs]
        exact this
    · cases h
  · cases h
def key0 : SV → Bool
  | .n _ _ | .z _ _ | .w _ _ | .t | .f => true
  | _ => false
def keyS : SV → Bool
  | .ag l => l.all key0
  | v => key0 v
def svSame : SV → SV → Bool
  | .ag l, .ag l' => svEqsM l l'
  | u, v => svEqM u v
where
  svEqM : SV → SV → Bool
  | .n k a, .n k' b => k == k' && a.beq b
  | .z k a, .z k' b => k == k' && a.beq b
  | .w k x, .w k' y => k == k' && wEq x y
  | .t, .t => true
  | .f, .f => true
  | _, _ => false
  svEqsM : List SV → List SV → Bool
  | [], [] => true
  | u :: a, v :: b => svEqM u v && svEqsM a b
  | _, _ => false
theorem svEqM_spec {u v : SV} (h : svSame.svEqM u v = true) : u = v ∧ key0 u = true := by
  unfold svSame.svEqM at h
  split at h
  all_goals first
    | (cases h; done)
    | exact ⟨rfl, rfl⟩
    | (simp only [Bool.and_eq_true, beq_iff_eq, Nat.beq_eq] at h
       obtain ⟨rfl, h⟩ := h
       first
        | (obtain rfl := wEq_sound _ _ h; exact ⟨rfl, rfl⟩)
        | (subst h; exact ⟨rfl, rfl⟩))
theorem svEqsM_spec : ∀ {a b : List SV}, svSame.svEqsM a b = true → a = b ∧ a.all key0 = true := by
  intro a
  induction a with
  | nil => intro b h; cases b with
    | nil => exact ⟨rfl, rfl⟩
    | cons v b => cases h
  | cons u a ih =>
    intro b h
    cases b with
    | nil => cases h
    | cons v b =>
      simp only [svSame.svEqsM, Bool.and_eq_true] at h
      obtain ⟨rfl, h1⟩ := svEqM_spec h.1
      obtain ⟨rfl, h2⟩ := ih h.2
      exact ⟨rfl, by rw [List.all_cons, h1, h2]; rfl⟩
theorem svSame_spec {u v : SV} (h : svSame u v = true) : u = v ∧ keyS u = true := by
  unfold svSame at h
  split at h
  · obtain ⟨rfl, h1⟩ := svEqsM_spec h; exact ⟨rfl, h1⟩
  · obtain ⟨rfl, h1⟩ := svEqM_spec h
    refine ⟨rfl, ?_⟩
    cases u <;> first | exact h1 | (cases h1; done)
theorem same0 (ρ : Nat → Nat) (n : Nat) {v : SV} (h : key0 v = true) : Instr.sameBits n (v.inst ρ) (v.inst ρ) = true := by
  cases v <;> simp only [key0, Bool.false_eq_true] at h <;> cases n <;> simp [SV.inst, Instr.sameBits]
theorem sameS (ρ : Nat → Nat) {v : SV} (h : keyS v = true) : Instr.sameBits 10000 (v.inst ρ) (v.inst ρ) = true := by
  unfold keyS at h
  split at h
  · rename_i l
    show Instr.sameBits (9999 + 1) (.agg ⟨instL ρ l⟩) (.agg ⟨instL ρ l⟩) = true
    simp only [Instr.sameBits, beq_self_eq_true, Bool.true_and]
    induction l with
    | nil => rfl
    | cons v l ih =>
      rw [List.all_cons, Bool.and_eq_true] at h
      simp only [instL, List.zip_cons_cons, List.all_cons, same0 ρ 9999 h.1, Bool.true_and]
      exact ih h.2
  · exact same0 ρ _ h
def instF (ρ : Nat → Nat) (f : Nat × SV × Nat) : Nat × Value × Nat := (f.1, f.2.1.inst ρ, f.2.2)
def smfind (P : Program) (G : List Asm) (kt : TypeId) (k : SV) : List SRow → Nat → Option (Option (Nat × SV × Nat))
  | [], _ => some none
  | (y, v, n) :: r, i => match skeyEq P G kt k y with
    | some true => bif svSame y k then some (some (i, v, n)) else none
    | some false => smfind P G kt k r (i + 1)
    | none => none
theorem smfind_inst {ρ : Nat → Nat} {P : Program} {G : List Asm} (hG : ∀ a ∈ G, a.ok ρ) {kt : TypeId} {k : SV} : ∀ {l : List SRow} {i : Nat} {f : Option (Nat × SV × Nat)}, smfind P G kt k l i = some f → mfind P kt (k.inst ρ) (l.map (instR ρ)) i = some (f.map (instF ρ)) := by
  intro l
  induction l with
  | nil => intro i f h; cases h; rfl
  | cons x l ih =>
    intro i f h
    obtain ⟨y, v, n⟩ := x
    simp only [smfind] at h
    simp only [List.map_cons, instR, mfind]
    split at h
    · rename_i hk
      rw [skeyEq_inst hG hk]
      cases hs : svSame y k <;> rw [hs] at h
      · cases h
      · cases h
        obtain ⟨rfl, h1⟩ := svSame_spec hs
        simp only [sameS ρ h1, cond_true]
        rfl
    · rename_i hk
      rw [skeyEq_inst hG hk]
      exact ih h
    · cases h
def closedS : SV → Bool
  | .ag l => l.all plainS
  | v => plainS v
theorem closedS_spec (ρ : Nat → Nat) {v : SV} (h : closedS v = true) : closed (v.inst ρ) = true := by
  unfold closedS at h
  split at h
  · exact plainL_spec ρ h
  · exact plain_closed (plainS_spec ρ h)
def smkey (P : Program) (G : List Asm) (kt : TypeId) (i : SV) : Bool := closedS i && (match skeyEq P G kt i i with | some b => b | none => false)
theorem smkey_inst {ρ : Nat → Nat} {P : Program} {G : List Asm} (hG : ∀ a ∈ G, a.ok ρ) {kt : TypeId} {i : SV} (h : smkey P G kt i = true) : mkey P kt (i.inst ρ) = true := by
  simp only [smkey, Bool.and_eq_true] at h
  obtain ⟨h1, h2⟩ := h
  split at h2
  · rename_i b hb
    subst h2
    simp only [mkey, closedS_spec ρ h1, skeyEq_inst hG hb, Bool.and_self]
  · cases h2
/-! What lies in a map -/
def mapI (u : SV) (ht : HT) (K : Nat → TypeId → Nat → List SRow → Bool) : Bool := match u with
  | .m b => obK b ht fun c e r => ifK r false (lsK c fun l => bnd (smparse l) fun p => K b e p.1 p.2)
  | _ => false
theorem mapI_true (ρ : Nat → Nat) {u : SV} {t : HT} {n : Nat} {K : Nat → TypeId → Nat → List SRow → Bool} (h : mapI u t K = true) :
    ∃ b e c rows, u = .m b ∧ (∃ cells, mapAt (u.inst ρ) (instH ρ t n) = some (b, ⟨cells, e, false⟩, c, rows.map (instR ρ))) ∧ K b e c rows = true := by
  unfold mapI at h
  split at h
  · rename_i b
    obtain ⟨c, e, r, h1, h⟩ := obK_true h
    cases r
    rotate_left
    · cases h
    rcases ifK_true (b := false) h with ⟨hr, _⟩ | ⟨_, h⟩
    · cases hr
    obtain ⟨l, rfl, h'⟩ := lsK_true h
    obtain ⟨p, h2, h3⟩ := bnd_true (r := smparse l) h'
    refine ⟨b, e, p.1, p.2, rfl, ⟨l.map (SV.inst ρ), ?_⟩, h3⟩
    simp only [mapAt, SV.inst, h1 ρ n, Cs.toL, smparse_inst ρ h2]
  · cases h
def fLs (l : List SV) : (List SV → Bool) → Bool := List.rec (motive := fun _ => (List SV → Bool) → Bool) (fun K => K []) (fun v _ ih K => fSV v fun v => ih fun r => K (v :: r)) l
theorem fLs_eq (l : List SV) : ∀ K, fLs l K = K l := by
  induction l with
  | nil => intro K; rfl
  | cons v l ih =>
    intro K
    show fSV v (fun v => fLs l fun r => K (v :: r)) = _
    rw [fSV_eq, ih]
def layK (b : Nat) (e : TypeId) (c : Nat) (rows : List SRow) (t : HT) (K : HT → Bool) : Bool := fLs (smlay c rows) fun l => hpK b (some ⟨.ls l, e, false⟩) t K
theorem layK_true (ρ : Nat → Nat) {b : Nat} {e : TypeId} {c : Nat} {rows : List SRow} {t : HT} {n : Nat} {K : HT → Bool} (h : layK b e c rows t K = true) : ∃ t', (instH ρ t n).put b ⟨mlay c (rows.map (instR ρ)), e, false⟩ = instH ρ t' n ∧ K t' = true := by
  unfold layK at h
  rw [fLs_eq] at h
  obtain ⟨t', ht, h⟩ := hpK_true h
  refine ⟨t', ?_, h⟩
  rw [ht]
  simp only [SOb.inst, Cs.toL, smlay_inst]
def zSV (T : Tab) (e : TypeId) : Option SV := match T.zero e with
  | some z => cv z
  | none => none
theorem zSV_spec (ρ : Nat → Nat) {T : Tab} {e : TypeId} {s : SV} (h : zSV T e = some s) : ∃ z, T.zero e = some z ∧ closed z = true ∧ z = s.inst ρ := by
  unfold zSV at h
  split at h
  · rename_i z hz
    obtain ⟨a, b⟩ := cv_spec ρ h
    exact ⟨z, hz, b, a.symm⟩
  · cases h
def hMakeMap (ty : TypeId) : Hd := fun E tm o t n K => pushK ⟨.ls [.n .i64 0], ty, false⟩ (.m n) t n K
theorem hMakeMap_ok (ρ : Nat → Nat) (E : Env) (ty : TypeId) : HdOk ρ E (.makeMap ty none) (hMakeMap ty) := by
  intro tm tr hT o t n K ho h
  have h : pushK ⟨.ls [.n .i64 0], ty, false⟩ (.m n) t n K = true := h
  obtain ⟨t', ht, h⟩ := pushK_true h
  refine opV (.m n) (t' := t') (n' := n + 1) ?_ h
  unfold aop
  simp only [ho, amap, ht, SOb.inst]
  rfl
def hLookup (ty : TypeId) (x i : Operand) (ok : Bool) : Hd := fun E tm o t n K => evK x tm fun u => evK i tm fun v => bnd (kts E.T ty) fun q => mapI u t fun b e c rows => ifK (smkey E.P E.G q.1 v) (bnd (smfind E.P E.G q.1 v rows 0) fun f => bnd (zSV E.T q.2) fun z => match f with
  | some f => K (bif ok then .tu [f.2.1, .t] else f.2.1) t n
  | none => K (bif ok then .tu [z, .f] else z) t n) false
theorem hLookup_ok {ρ : Nat → Nat} {E : Env} (hE : EnvOk ρ E) (ty : TypeId) (x i : Operand) (ok : Bool) : HdOk ρ E (.lookup ty x i ok) (hLookup ty x i ok) := by
  intro tm tr hT o t n K ho h
  obtain ⟨u, h1, h⟩ := evK_true hT h
  obtain ⟨v, h2, h⟩ := evK_true hT h
  obtain ⟨⟨kt, et⟩, h3, h⟩ := bnd_true (r := kts E.T ty) h
  obtain ⟨b, e, c, rows, hu, ⟨cells, h4⟩, h⟩ := mapI_true ρ (n := n) h
  obtain ⟨h5, h⟩ := ifF_true h
  obtain ⟨f, h6, h⟩ := bnd_true (r := smfind E.P E.G kt v rows 0) h
  obtain ⟨s, h7, h⟩ := bnd_true (r := zSV E.T et) h
  obtain ⟨z, z1, z2, rfl⟩ := zSV_spec ρ h7
  have h5 := smkey_inst hE.G h5
  have h6 := smfind_inst hE.G h6
  have fin : ∀ r, alookup E.P E.T ty ok (u.inst ρ) (v.inst ρ) (instH ρ t n) = some r → aop E.P E.T tr o (instH ρ t n) = some (.val r, instH ρ t n) := fun r hr => by
    unfold aop
    simp only [ho, amap, h1, h2, hr, val]
  cases f with
  | some f =>
    refine opV _ (fin _ ?_) h
    simp only [alookup, h3, h4, h5, h6, cond_true, Option.map_some, instF, z1]
    cases ok <;> rfl
  | none =>
    refine opV _ (fin _ ?_) h
    simp only [alookup, h3, h4, h5, h6, cond_true, Option.map_none, z1, z2]
    cases ok <;> rfl
def hMapUpdate (ty : TypeId) (x i y : Operand) : Hd := fun E tm o t n K => evK x tm fun u => evK i tm fun v => evK y tm fun w => bnd (kts E.T ty) fun q => mapI u t fun b e c rows => ifK (smkey E.P E.G q.1 v) (bnd (smfind E.P E.G q.1 v rows 0) fun f => match f with
  | some f => layK b e c (rows.set f.1 (v, w, f.2.2)) t fun t => K .u t n
  | none => layK b e (c + 1) (rows ++ [(v, w, c)]) t fun t => K .u t n) false
theorem hMapUpdate_ok {ρ : Nat → Nat} {E : Env} (hE : EnvOk ρ E) (ty : TypeId) (x i y : Operand) : HdOk ρ E (.mapUpdate ty x i y) (hMapUpdate ty x i y) := by
  intro tm tr hT o t n K ho h
  obtain ⟨u, h1, h⟩ := evK_true hT h
  obtain ⟨v, h2, h⟩ := evK_true hT h
  obtain ⟨w, h2', h⟩ := evK_true hT h
  obtain ⟨⟨kt, et⟩, h3, h⟩ := bnd_true (r := kts E.T ty) h
  obtain ⟨b, e, c, rows, hu, ⟨cells, h4⟩, h⟩ := mapI_true ρ (n := n) h
  obtain ⟨h5, h⟩ := ifF_true h
  obtain ⟨f, h6, h⟩ := bnd_true (r := smfind E.P E.G kt v rows 0) h
  have h5 := smkey_inst hE.G h5
  have h6 := smfind_inst hE.G h6
  have fin : ∀ H', aupdate E.P E.T ty (u.inst ρ) (v.inst ρ) (w.inst ρ) (instH ρ t n) = some H' → aop E.P E.T tr o (instH ρ t n) = some (.skip, H') := fun r hr => by
    unfold aop
    simp only [ho, amap, h1, h2, h2', hr, skp]
  cases f with
  | some f =>
    obtain ⟨t', h7, h⟩ := layK_true ρ (n := n) h
    refine ⟨.u, t', n, .inr ⟨rfl, fin _ ?_⟩, h⟩
    simp only [aupdate, h3, h4, h5, h6, Bool.not_true, Bool.or_self, cond_false, Option.map_some, instF]
    rw [← h7, List.map_set]
    rfl
  | none =>
    obtain ⟨t', h7, h⟩ := layK_true ρ (n := n) h
    refine ⟨.u, t', n, .inr ⟨rfl, fin _ ?_⟩, h⟩
    simp only [aupdate, h3, h4, h5, h6, Bool.not_true, Bool.or_self, cond_false, Option.map_none]
    rw [← h7, List.map_append]
    rfl
def hMapEntry (ty : TypeId) (x i : Operand) : Hd := fun E tm o t n K => evK x tm fun u => evK i tm fun v => bnd (kts E.T ty) fun q => mapI u t fun b e c rows => ifK (smkey E.P E.G q.1 v) (bnd (smfind E.P E.G q.1 v rows 0) fun f => bnd (zSV E.T q.2) fun z => match f with
  | some f => layK b e c (rows.set f.1 (v, f.2.1, f.2.2)) t fun t => fN f.2.2 fun m => K (.tu [f.2.1, .n .i64 m]) t n
  | none => layK b e (c + 1) (rows ++ [(v, z, c)]) t fun t => fN c fun m => K (.tu [z, .n .i64 m]) t n) false
theorem hMapEntry_ok {ρ : Nat → Nat} {E : Env} (hE : EnvOk ρ E) (ty : TypeId) (x i : Operand) : HdOk ρ E (.mapEntry ty x i) (hMapEntry ty x i) := by
  intro tm tr hT o t n K ho h
  obtain ⟨u, h1, h⟩ := evK_true hT h
  obtain ⟨v, h2, h⟩ := evK_true hT h
  obtain ⟨⟨kt, et⟩, h3, h⟩ := bnd_true (r := kts E.T ty) h
  obtain ⟨b, e, c, rows, hu, ⟨cells, h4⟩, h⟩ := mapI_true ρ (n := n) h
  obtain ⟨h5, h⟩ := ifF_true h
  obtain ⟨f, h6, h⟩ := bnd_true (r := smfind E.P E.G kt v rows 0) h
  obtain ⟨s, h7, h⟩ := bnd_true (r := zSV E.T et) h
  obtain ⟨z, z1, z2, rfl⟩ := zSV_spec ρ h7
  have h5 := smkey_inst hE.G h5
  have h6 := smfind_inst hE.G h6
  have fin : ∀ r H', aentry E.P E.T ty (u.inst ρ) (v.inst ρ) (instH ρ t n) = some (r, H') → aop E.P E.T tr o (instH ρ t n) = some (.val r, H') := fun r H' hr => by
    unfold aop
    simp only [ho, amap, h1, h2, hr, val2]
  cases f with
  | some f =>
    obtain ⟨t', h7, h⟩ := layK_true ρ (n := n) h
    rw [fN_eq] at h
    refine opV _ (t' := t') (n' := n) (fin _ _ ?_) h
    simp only [aentry, h3, h4, h5, h6, Bool.not_true, Bool.or_self, cond_false, Option.map_some, instF, z1]
    rw [← h7, List.map_set]
    rfl
  | none =>
    obtain ⟨t', h7, h⟩ := layK_true ρ (n := n) h
    rw [fN_eq] at h
    refine opV _ (t' := t') (n' := n) (fin _ _ ?_) h
    simp only [aentry, h3, h4, h5, h6, Bool.not_true, Bool.or_self, cond_false, Option.map_none, z1, z2, cond_true]
    rw [← h7, List.map_append]
    rfl
def sborn (s : Nat) : List SRow → Nat → Option (Nat × SRow)
  | [], _ => none
  | x :: r, i => bif Nat.beq x.2.2 s then some (i, x) else sborn s r (i + 1)
theorem sborn_inst (ρ : Nat → Nat) {s : Nat} : ∀ {l : List SRow} {i : Nat} {p : Nat × SRow}, sborn s l i = some p → mborn s (l.map (instR ρ)) i = some (p.1, instR ρ p.2) := by
  intro l
  induction l with
  | nil => intro i p h; cases h
  | cons x l ih =>
    intro i p h
    simp only [sborn] at h
    have e : (instR ρ x).2.2 = x.2.2 := rfl
    simp only [List.map_cons, mborn, e]
    cases hb : Nat.beq x.2.2 s <;> rw [hb] at h
    · exact ih h
    · cases h; rfl
def hEntryStore (x s y : Operand) : Hd := fun E tm o t n K => evK x tm fun u => evK s tm fun v => evK y tm fun w => natK v fun a => mapI u t fun b e c rows => bnd (sborn a rows 0) fun p => layK b e c (rows.set p.1 (p.2.1, w, p.2.2.2)) t fun t => K .u t n
theorem hEntryStore_ok (ρ : Nat → Nat) (E : Env) (ty : TypeId) (x s y : Operand) : HdOk ρ E (.entryStore ty x s y) (hEntryStore x s y) := by
  intro tm tr hT o t n K ho h
  obtain ⟨u, h1, h⟩ := evK_true hT h
  obtain ⟨v, h2, h⟩ := evK_true hT h
  obtain ⟨w, h3, h⟩ := evK_true hT h
  obtain ⟨k, a, rfl, g⟩ := natK_true h
  obtain ⟨b, e, c, rows, hu, ⟨cells, h4⟩, g⟩ := mapI_true ρ (n := n) g
  obtain ⟨p, h5, g⟩ := bnd_true (r := sborn a rows 0) g
  obtain ⟨t', h7, g⟩ := layK_true ρ (n := n) g
  refine ⟨.u, t', n, .inr ⟨rfl, ?_⟩, g⟩
  have h5 := sborn_inst ρ h5
  have : aestore (u.inst ρ) ((SV.n k a).inst ρ) (w.inst ρ) (instH ρ t n) = some (instH ρ t' n) := by
    simp only [aestore, h4, SV.inst, cond_false, h5]
    rw [← h7, List.map_set]
    rfl
  unfold aop
  simp only [ho, amap, h1, h2, h3, this, skp]
end
end Go.Ev
