/- Operations on values that are not known whole: walks over maps, delete, len. -/
import Derived.Test.YthmcpmdohmfeiaaGreatDoorEvWm
namespace Go.Ev
open Go
set_option linter.unusedVariables false
set_option linter.unusedSimpArgs false
set_option linter.constructorNameAsVariable false
noncomputable section
def snats : List SV → Option (List Nat)
  | [] => some []
  | .n .i64 a :: r => match snats r with | some l => some (a :: l) | none => none
  | _ => none
theorem snats_inst (ρ : Nat → Nat) : ∀ {l : List SV} {r : List Nat}, snats l = some r → inats (l.map (SV.inst ρ)) = some r := by
  intro l
  induction l with
  | nil => intro r h; cases h; rfl
  | cons v l ih =>
    intro r h
    unfold snats at h
    split at h
    · rename_i e; cases e
    · rename_i a r' e
      cases e
      split at h
      · rename_i l' hl'
        cases h
        have := ih hl'
        simp only [List.map_cons, SV.inst, inats, this]
      · cases h
    · cases h
def siparse : List SV → Option (Nat × Nat × Nat × List Nat)
  | .m b :: .n .i64 s :: .n .i64 q :: r => match snats r with | some l => some (b, s, q, l) | none => none
  | _ => none
theorem siparse_inst (ρ : Nat → Nat) {l : List SV} {p : Nat × Nat × Nat × List Nat} (h : siparse l = some p) : iparse (l.map (SV.inst ρ)) = some p := by
  unfold siparse at h
  split at h
  · rename_i b s q r
    split at h
    · rename_i l' hl'
      cases h
      have := snats_inst ρ hl'
      simp only [List.map_cons, SV.inst, iparse, this]
    · cases h
  · cases h
def sicells (b since st : Nat) (seen : List Nat) : List SV := .m b :: .n .i64 since :: .n .i64 st :: seen.map fun a => .n .i64 a
theorem sicells_inst (ρ : Nat → Nat) (b since st : Nat) (seen : List Nat) : (sicells b since st seen).map (SV.inst ρ) = icells b since st seen := by
  simp only [sicells, icells, List.map_cons, List.map_map]
  rfl
def hRange (ty : TypeId) (x : Operand) : Hd := fun E tm o t n K => evK x tm fun u => ifK (kts E.T ty).isSome (mapI u t fun b e c rows => fN c fun c => pushK ⟨.ls (sicells b c c []), ty, false⟩ (.it n) t n K) false
theorem hRange_ok (ρ : Nat → Nat) (E : Env) (ty : TypeId) (x : Operand) : HdOk ρ E (.range ty x) (hRange ty x) := by
  intro tm tr hT o t n K ho h
  obtain ⟨u, h1, h⟩ := evK_true hT h
  obtain ⟨h2, h⟩ := ifF_true h
  obtain ⟨q, h2⟩ := Option.isSome_iff_exists.1 h2
  obtain ⟨b, e, c, rows, hu, ⟨cells, h4⟩, h⟩ := mapI_true ρ (n := n) h
  rw [fN_eq] at h
  obtain ⟨t', ht, h⟩ := pushK_true h
  refine opV (.it n) (t' := t') (n' := n + 1) ?_ h
  have : arange E.T ty (u.inst ρ) (instH ρ t n) = some ((SV.it n).inst ρ, instH ρ t' (n + 1)) := by
    simp only [arange, h2, h4, ht, SOb.inst, Cs.toL, sicells_inst]
    rfl
  unfold aop
  simp only [ho, amap, h1, this, val2]
def itI (u : SV) (ht : HT) (K : Nat → TypeId → Nat → Nat → Nat → List Nat → Bool) : Bool := match u with
  | .it i => obK i ht fun c e r => ifK r false (lsK c fun l => bnd (siparse l) fun p => K i e p.1 p.2.1 p.2.2.1 p.2.2.2)
  | _ => false
theorem itI_true (ρ : Nat → Nat) {u : SV} {t : HT} {n : Nat} {K : Nat → TypeId → Nat → Nat → Nat → List Nat → Bool} (h : itI u t K = true) :
    ∃ i e b s q seen, (∃ cells, iterAt (u.inst ρ) (instH ρ t n) = some (i, ⟨cells, e, false⟩, b, s, q, seen)) ∧ K i e b s q seen = true := by
  unfold itI at h
  split at h
  · rename_i i
    obtain ⟨c, e, r, h1, h⟩ := obK_true h
    cases r
    rotate_left
    · cases h
    rcases ifK_true (b := false) h with ⟨hr, _⟩ | ⟨_, h⟩
    · cases hr
    obtain ⟨l, rfl, h'⟩ := lsK_true h
    obtain ⟨⟨b, s, q, seen⟩, h2, h3⟩ := bnd_true (r := siparse l) h'
    refine ⟨i, e, b, s, q, seen, ⟨l.map (SV.inst ρ), ?_⟩, h3⟩
    simp only [iterAt, SV.inst, h1 ρ n, Cs.toL, siparse_inst ρ h2]
  · cases h
def hNext (x : Operand) : Hd := fun E tm o t n K => evK x tm fun u => itI u t fun i e b since q seen => mapI (.m b) t fun _ _ c rows => ifK (Nat.ble since q && rows.all fun e => Nat.blt e.2.2 since)
  (match rows.filter fun e => !seen.contains e.2.2 with
  | [] => K (.tu [.f]) t n
  | [r] => fLs (sicells b since c (seen ++ [r.2.2])) fun l => hpK i (some ⟨.ls l, e, false⟩) t fun t => K (.tu [.t, r.1, r.2.1]) t n
  | _ => false) false
theorem filter_inst (ρ : Nat → Nat) (seen : List Nat) (rows : List SRow) : (rows.map (instR ρ)).filter (fun e => !seen.contains e.2.2) = (rows.filter fun e => !seen.contains e.2.2).map (instR ρ) := by
  rw [List.filter_map]; rfl
theorem all_inst (ρ : Nat → Nat) (s : Nat) (rows : List SRow) : (rows.map (instR ρ)).all (fun e => Nat.blt e.2.2 s) = rows.all fun e => Nat.blt e.2.2 s := by
  rw [List.all_map]; rfl
theorem hNext_ok (ρ : Nat → Nat) (E : Env) (x : Operand) : HdOk ρ E (.next x false) (hNext x) := by
  intro tm tr hT o t n K ho h
  obtain ⟨u, h1, h⟩ := evK_true hT h
  obtain ⟨i, e, b, since, q, seen, ⟨cells, h2⟩, h⟩ := itI_true ρ (n := n) h
  obtain ⟨b', e', c, rows, hb, ⟨cells', h4⟩, h⟩ := mapI_true ρ (n := n) h
  obtain ⟨h5, h⟩ := ifF_true h
  have h4 : mapAt (.map (some b)) (instH ρ t n) = some (b', ⟨cells', e', false⟩, c, rows.map (instR ρ)) := h4
  have fin : ∀ r H', anext (u.inst ρ) (instH ρ t n) = some (r, H') → aop E.P E.T tr o (instH ρ t n) = some (.val r, H') := fun r H' hr => by
    unfold aop
    simp only [ho, amap, h1, hr, val2]
  split at h
  · rename_i hf
    refine opV _ (fin _ _ ?_) h
    simp only [anext, h2, h4, all_inst, h5, cond_true, filter_inst, hf, List.map_nil]
    rfl
  · rename_i r hf
    rw [fLs_eq] at h
    obtain ⟨t', ht, h⟩ := hpK_true h
    refine opV _ (t' := t') (n' := n) (fin _ _ ?_) h
    simp only [anext, h2, h4, all_inst, h5, cond_true, filter_inst, hf, List.map_cons, List.map_nil, ht, SOb.inst, Cs.toL, sicells_inst]
    rfl
  · cases h
def hEntry (x : Operand) : Hd := fun E tm o t n K => evK x tm fun u => itI u t fun i e b since q seen => mapI (.m b) t fun _ _ c rows => bnd seen.getLast? fun s => ifK (Nat.beq c q) (bnd (sborn s rows 0) fun p => K (.tu [p.2.1, p.2.2.1]) t n) false
theorem hEntry_ok (ρ : Nat → Nat) (E : Env) (x : Operand) : HdOk ρ E (.entry x) (hEntry x) := by
  intro tm tr hT o t n K ho h
  obtain ⟨u, h1, h⟩ := evK_true hT h
  obtain ⟨i, e, b, since, q, seen, ⟨cells, h2⟩, h⟩ := itI_true ρ (n := n) h
  obtain ⟨b', e', c, rows, hb, ⟨cells', h4⟩, h⟩ := mapI_true ρ (n := n) h
  obtain ⟨s, h5, h⟩ := bnd_true (r := seen.getLast?) h
  obtain ⟨h6, h⟩ := ifF_true h
  obtain ⟨p, h7, h⟩ := bnd_true (r := sborn s rows 0) h
  have h4 : mapAt (.map (some b)) (instH ρ t n) = some (b', ⟨cells', e', false⟩, c, rows.map (instR ρ)) := h4
  have h7 := sborn_inst ρ h7
  refine opV (.tu [p.2.1, p.2.2.1]) ?_ h
  have : ainow (u.inst ρ) (instH ρ t n) = some ((SV.tu [p.2.1, p.2.2.1]).inst ρ) := by
    simp only [ainow, h2, h4, h5, h6, cond_true, h7]
    rfl
  unfold aop
  simp only [ho, amap, h1, this, val]
def hDelete (c : Call) : Hd := fun E tm o t n K => evsK c.args.toList tm fun vs => match c.argTypes.toList, vs with
  | [mt, _], [x, v] => bnd (kts E.T mt) fun q => mapI x t fun b e c rows => ifK (smkey E.P E.G q.1 v) (bnd (smfind E.P E.G q.1 v rows 0) fun f => match f with
    | some f => layK b e c (rows.eraseIdx f.1) t fun t => K (.tu []) t n
    | none => layK b e c rows t fun t => K (.tu []) t n) false
  | _, _ => false
def lenJ (E : Env) (ts : List TypeId) (vs : List SV) (t : HT) (n : Nat) (K : KV) : Bool := match ts, vs with
  | [ty], [.m b] => ifK (kts E.T ty).isSome (mapI (.m b) t fun _ _ _ rows => fN rows.length fun m => K (.n .i64 m) t n) false
  | ts, vs => bltK E .len ts vs t n K
def hLen (c : Call) : Hd := fun E tm o t n K => evsK c.args.toList tm fun vs => lenJ E c.argTypes.toList vs t n K
def hBltM (c : Call) : Hd := fun E tm o t n K => match c.callee with
  | .builtin .delete => hDelete c E tm o t n K
  | .builtin .len => hLen c E tm o t n K
  | _ => hBlt c E tm o t n K
theorem map_erase (ρ : Nat → Nat) (rows : List SRow) (j : Nat) : (rows.eraseIdx j).map (instR ρ) = (rows.map (instR ρ)).eraseIdx j := by
  induction rows generalizing j with
  | nil => rfl
  | cons x r ih =>
    cases j with
    | zero => rfl
    | succ j => simp only [List.eraseIdx_cons_succ, List.map_cons, ih]
theorem hBltM_ok {ρ : Nat → Nat} {E : Env} (hE : EnvOk ρ E) (c : Call) : HdOk ρ E (.call c) (hBltM c) := by
  intro tm tr hT o t n K ho h
  have start : ∀ r, acall E.P E.T tr o c (instH ρ t n) = r → aop E.P E.T tr o (instH ρ t n) = r := fun r hr => by
    unfold aop; simp only [ho]; exact hr
  unfold hBltM at h
  split at h
  · rename_i hb
    obtain ⟨vs, h1, h⟩ := evsK_true hT h
    split at h
    · rename_i mt _ x v ht
      obtain ⟨⟨kt, et⟩, h3, h⟩ := bnd_true (r := kts E.T mt) h
      obtain ⟨b, e, c', rows, hu, ⟨cells, h4⟩, h⟩ := mapI_true ρ (n := n) h
      obtain ⟨h5, h⟩ := ifF_true h
      obtain ⟨f, h6, h⟩ := bnd_true (r := smfind E.P E.G kt v rows 0) h
      have h5 := smkey_inst hE.G h5
      have h6 := smfind_inst hE.G h6
      cases f with
      | some f =>
        obtain ⟨t', h7, h⟩ := layK_true ρ (n := n) h
        refine opV (.tu []) (t' := t') (n' := n) (start _ ?_) h
        have : adelete E.P E.T mt (x.inst ρ) (v.inst ρ) (instH ρ t n) = some (instH ρ t' n) := by
          simp only [adelete, h3, h4, h5, h6, Bool.not_true, Bool.or_self, cond_false, Option.map_some, instF]
          rw [← h7, map_erase]
        unfold acall
        simp only [hb, ht, h1, instL, this]
        rfl
      | none =>
        obtain ⟨t', h7, h⟩ := layK_true ρ (n := n) h
        refine opV (.tu []) (t' := t') (n' := n) (start _ ?_) h
        have : adelete E.P E.T mt (x.inst ρ) (v.inst ρ) (instH ρ t n) = some (instH ρ t' n) := by
          simp only [adelete, h3, h4, h5, h6, Bool.not_true, Bool.or_self, cond_false, Option.map_none]
          rw [← h7]
        unfold acall
        simp only [hb, ht, h1, instL, this]
        rfl
    · cases h
  · rename_i hb
    obtain ⟨vs, h1, h⟩ := evsK_true hT h
    unfold lenJ at h
    split at h
    · rename_i ty b ht
      obtain ⟨h2, h⟩ := ifF_true h
      obtain ⟨q, h2⟩ := Option.isSome_iff_exists.1 h2
      obtain ⟨b', e, c', rows, hu, ⟨cells, h4⟩, h⟩ := mapI_true ρ (n := n) h
      rw [fN_eq] at h
      have h4 : mapAt (.map (some b)) (instH ρ t n) = some (b', ⟨cells, e, false⟩, c', rows.map (instR ρ)) := h4
      refine opV (.n .i64 rows.length) (start _ ?_) h
      unfold acall
      simp only [hb, ht, h1, instL, SV.inst, h2, h4, List.length_map]
      rfl
    · exact bltK_ok hE ho hb h1 h
  · exact hBlt_ok hE c tm tr hT o t n K ho h
end
end Go.Ev
