/- Operations on values that are not known whole: strings, structs, changes of type, places, slices. -/
import Derived.Test.YthmcpmdohmfeiaaGreatDoorEvWf
namespace Go.Ev
open Go
set_option linter.unusedVariables false
set_option linter.unusedSimpArgs false
set_option linter.constructorNameAsVariable false
noncomputable section
theorem prun_bind {α β : Type} {P : Program} {f : α → Sem β} (s : Sem α) : ∀ (a : α) (b : β), prun P s = some a → prun P (f a) = some b → prun P (s >>= f) = some b := by
  induction s with
  | pure b0 => intro a b h hb; simp only [prun] at h; cases h; exact hb
  | program k ih => intro a b h hb; simp only [prun] at h; exact ih P a b h hb
  | _ => intro a b h; simp [prun] at h
/-- Where the short form says nothing: the model's own run. -/
theorem fb_bin {P : Program} {T : Tab} {tm : Tr Value} {o : Oper} {H : Heap} {op : BinOp} {t t2 : TypeId} {a b : Operand} {u v r : Value} (ho : o.op = .binOp op t a b t2) (hx : aeval tm a = some u) (hy : aeval tm b = some v) (h : abin T op t u v = none) (hc : closed u = true) (hd : closed v = true) (hr : prun P (do eqGuard op t a b u v; Go.binOp op t u v) = some r) (hv : closed r = true) (hn : ∀ xs, u ≠ .agg xs) : aop P T tm o H = some (.val r, H) := by
  have h1 : ρ tm a = u := by simp only [ρ, hx, Option.getD_some]
  have h2 : ρ tm b = v := by simp only [ρ, hy, Option.getD_some]
  unfold aop
  simp only [ho, hx, hy, h, orVal]
  unfold fallback
  simp only [ho, Op.operands, List.all_cons, List.all_nil, dataAt, hx, hy, hc, hd, Bool.and_self, cond_true]
  have he : prun P (execOp (Go.Ev.ρ tm) o) = some (.value r) := by
    have : execOp (Go.Ev.ρ tm) o = (do let v ← (do eqGuard op t a b u v; Go.binOp op t u v); pure (.value v)) := by simp [execOp, ho, h1, h2]
    rw [this]
    exact prun_bind _ _ _ hr rfl
  have hag : aggEq P tm o = none := by
    unfold aggEq
    simp only [ho, hx, hy]
    split
    · rename_i e _; cases e; exact absurd rfl (hn _)
    · rename_i e _; cases e; exact absurd rfl (hn _)
    · rfl
  simp only [hag, fallback0, ho, Op.operands, List.all_cons, List.all_nil, dataAt, hx, hy, hc, hd, Bool.and_self, cond_true, he, hv, val]
theorem seq_run {P : Program} {t : TypeId} {a b : Operand} {x y : ByteArray} {r : Bool} (h : decide (x = y) = r) : prun P (do eqGuard .eql t a b (.string x) (.string y); Go.binOp .eql t (.string x) (.string y)) = some (.bool r) := by
  show prun P (Op.stringOp .eql x y) = _
  unfold Op.stringOp
  show some (Value.bool (x.toList == y.toList)) = _
  rw [← h]
  congr 2
  rw [ByteArray.toList_eq, ByteArray.toList_eq]
  by_cases e : x = y
  · subst e; simp
  · have : ¬ x.data = y.data := fun e2 => e (by cases x; cases y; congr 1)
    simp [e, this]
theorem sne_run {P : Program} {t : TypeId} {a b : Operand} {x y : ByteArray} {r : Bool} (h : decide (x = y) = !r) : prun P (do eqGuard .neq t a b (.string x) (.string y); Go.binOp .neq t (.string x) (.string y)) = some (.bool r) := by
  show prun P (Op.stringOp .neq x y) = _
  unfold Op.stringOp
  show some (Value.bool !(x.toList == y.toList)) = _
  have h2 : (x.toList == y.toList) = !r := by
    rw [← h, ByteArray.toList_eq, ByteArray.toList_eq]
    by_cases e : x = y
    · subst e; simp
    · have : ¬ x.data = y.data := fun e2 => e (by cases x; cases y; congr 1)
      simp [e, this]
  rw [h2, Bool.not_not]
/-- Bytes that are known. -/
def bytesN : List SV → Option (List Nat)
  | [] => some []
  | .n .u8 a :: r => match bytesN r with
    | some l => bif a.blt 256 then some (a :: l) else none
    | none => none
  | _ => none
theorem bytesN_spec (ρ : Nat → Nat) : ∀ {l : List SV} {q : List Nat}, bytesN l = some q → l.map (byteOf ρ) = q.map UInt8.ofNat ∧ ∀ a ∈ q, a < 256 := by
  intro l
  induction l with
  | nil => intro q h; cases h; exact ⟨rfl, fun a ha => by cases ha⟩
  | cons v l ih =>
    intro q h
    unfold bytesN at h
    split at h
    · rename_i e; cases e
    · rename_i a r e
      cases e
      split at h
      · rename_i q' hq
        cases hb : a.blt 256 <;> rw [hb] at h <;> cases h
        obtain ⟨h1, h2⟩ := ih hq
        refine ⟨by rw [List.map_cons, List.map_cons, h1]; rfl, fun x hx => ?_⟩
        rcases List.mem_cons.1 hx with rfl | hx
        · exact blt_lt hb
        · exact h2 x hx
      · cases h
    · cases h
def natsEq : List Nat → List Nat → Bool
  | [], [] => true
  | a :: r, b :: q => a.beq b && natsEq r q
  | _, _ => false
theorem natsEq_spec : ∀ {p q : List Nat}, (∀ a ∈ p, a < 256) → (∀ a ∈ q, a < 256) → decide ((⟨⟨p.map UInt8.ofNat⟩⟩ : ByteArray) = ⟨⟨q.map UInt8.ofNat⟩⟩) = natsEq p q := by
  have key : ∀ {p q : List Nat}, (∀ a ∈ p, a < 256) → (∀ a ∈ q, a < 256) → (p.map UInt8.ofNat = q.map UInt8.ofNat ↔ natsEq p q = true) := by
    intro p
    induction p with
    | nil => intro q _ _; cases q <;> simp [natsEq]
    | cons a p ih =>
      intro q hp hq
      cases q with
      | nil => simp [natsEq]
      | cons b q =>
        simp only [List.map_cons, List.cons.injEq, natsEq, Bool.and_eq_true, Nat.beq_eq]
        rw [ih (fun x hx => hp x (List.mem_cons_of_mem _ hx)) (fun x hx => hq x (List.mem_cons_of_mem _ hx))]
        have ha := hp a List.mem_cons_self
        have hb := hq b List.mem_cons_self
        constructor
        · rintro ⟨e, h⟩
          refine ⟨?_, h⟩
          have := congrArg UInt8.toNat e
          simpa [Nat.mod_eq_of_lt ha, Nat.mod_eq_of_lt hb] using this
        · rintro ⟨rfl, h⟩; exact ⟨rfl, h⟩
  intro p q hp hq
  cases hb : natsEq p q
  · refine decide_eq_false fun e => ?_
    have e2 := congrArg (fun x : ByteArray => x.data.toList) e
    simp only at e2
    rw [(key hp hq).1 e2] at hb; cases hb
  · refine decide_eq_true ?_
    rw [(key hp hq).2 hb]
/-- Are two bytes the same? -/
def by0 (G : List Asm) (u v : SV) (X Y : Bool) : Bool := bnd (wOf u) fun p => bnd (wOf v) fun q => ifK (Nat.blt (hiW p.2) 256) (ifK (Nat.blt (hiW q.2) 256) (bnd (eqW G p.2 q.2) fun b => ifK b X Y) false) false
def byEq (G : List Asm) (u v : SV) (X Y : Bool) : Bool := Nn.rec (motive := fun _ => Bool) (by0 G u v X Y) (fun _ p => Nn.rec (motive := fun _ => Bool) (by0 G u v X Y) (fun _ q => ifK (Nat.ble (Nat.succ p) 256) (ifK (Nat.ble (Nat.succ q) 256) (ifK (Nat.beq p q) X Y) false) false) (asN v)) (asN u)
theorem ofNat_inj8 {a b : Nat} (ha : a < 256) (hb : b < 256) (h : UInt8.ofNat a = UInt8.ofNat b) : a = b := by
  have := congrArg UInt8.toNat h
  simpa [Nat.mod_eq_of_lt ha, Nat.mod_eq_of_lt hb] using this
theorem byteOf_w (ρ : Nat → Nat) {v : SV} {p : IntKind × W} (h : wOf v = some p) : byteOf ρ v = UInt8.ofNat (evW ρ p.2) := by
  unfold wOf at h
  split at h <;> cases h
  · simp only [byteOf, litW_ev]
  · rfl
theorem by0_true {ρ : Nat → Nat} {G : List Asm} (hG : ∀ a ∈ G, a.ok ρ) {u v : SV} {X Y : Bool} (h : by0 G u v X Y = true) : (byteOf ρ u = byteOf ρ v ∧ X = true) ∨ (byteOf ρ u ≠ byteOf ρ v ∧ Y = true) := by
  obtain ⟨p, h1, h⟩ := bnd_true (r := wOf u) h
  obtain ⟨q, h2, h⟩ := bnd_true (r := wOf v) h
  obtain ⟨h3, h⟩ := ifF_true h
  obtain ⟨h4, h⟩ := ifF_true h
  obtain ⟨b, h5, h⟩ := bnd_true (r := eqW G p.2 q.2) h
  have h6 := eqW_spec hG h5
  have hp := Nat.lt_of_le_of_lt (boundsW ρ p.2).2 (blt_lt h3)
  have hq := Nat.lt_of_le_of_lt (boundsW ρ q.2).2 (blt_lt h4)
  rw [byteOf_w ρ h1, byteOf_w ρ h2]
  rcases ifK_true h with ⟨rfl, h⟩ | ⟨rfl, h⟩
  · exact .inl ⟨by rw [of_decide_eq_true h6], h⟩
  · exact .inr ⟨fun e => of_decide_eq_false h6 (ofNat_inj8 hp hq e), h⟩
theorem byEq_true {ρ : Nat → Nat} {G : List Asm} (hG : ∀ a ∈ G, a.ok ρ) {u v : SV} {X Y : Bool} (h : byEq G u v X Y = true) : (byteOf ρ u = byteOf ρ v ∧ X = true) ∨ (byteOf ρ u ≠ byteOf ρ v ∧ Y = true) := by
  unfold byEq at h
  cases hu : asN u with
  | no => rw [hu] at h; exact by0_true hG h
  | yes k p =>
    rw [hu] at h
    cases hv : asN v with
    | no => rw [hv] at h; exact by0_true hG h
    | yes k' q =>
      rw [hv] at h
      obtain ⟨h3, k1⟩ := ifF_true h
      obtain ⟨h4, k2⟩ := ifF_true k1
      obtain rfl := asN_yes hu
      obtain rfl := asN_yes hv
      rcases ifK_true k2 with ⟨h5, h⟩ | ⟨h5, h⟩
      · exact .inl ⟨by rw [byteOf, byteOf, Nat.eq_of_beq_eq_true h5], h⟩
      · exact .inr ⟨fun e => Nat.ne_of_beq_eq_false h5 (ofNat_inj8 (Nat.le_of_ble_eq_true h3) (Nat.le_of_ble_eq_true h4) e), h⟩
def seqK (G : List Asm) (l : List SV) (X Y : Bool) : List SV → Bool := List.rec (motive := fun _ => List SV → Bool) (fun l' => List.rec (motive := fun _ => Bool) X (fun _ _ _ => Y) l') (fun u _ ih l' => List.rec (motive := fun _ => Bool) Y (fun v r _ => byEq G u v (ih r) Y) l') l
theorem seqK_true {ρ : Nat → Nat} {G : List Asm} (hG : ∀ a ∈ G, a.ok ρ) {X Y : Bool} : ∀ {l l' : List SV}, seqK G l X Y l' = true → (l.map (byteOf ρ) = l'.map (byteOf ρ) ∧ X = true) ∨ (l.map (byteOf ρ) ≠ l'.map (byteOf ρ) ∧ Y = true) := by
  intro l
  induction l with
  | nil =>
    intro l' h
    cases l' with
    | nil => exact .inl ⟨rfl, h⟩
    | cons v r => exact .inr ⟨by simp, h⟩
  | cons u l ih =>
    intro l' h
    cases l' with
    | nil => exact .inr ⟨by simp, h⟩
    | cons v r =>
      have h : byEq G u v (seqK G l X Y r) Y = true := h
      rcases byEq_true hG h with ⟨h1, h⟩ | ⟨h1, h⟩
      · rcases ih h with ⟨h2, h⟩ | ⟨h2, h⟩
        · exact .inl ⟨by rw [List.map_cons, List.map_cons, h1, h2], h⟩
        · exact .inr ⟨fun e => h2 (by rw [List.map_cons, List.map_cons] at e; exact (List.cons.inj e).2), h⟩
      · exact .inr ⟨fun e => h1 (by rw [List.map_cons, List.map_cons] at e; exact (List.cons.inj e).1), h⟩
def strK (G : List Asm) (op : BinOp) (l : List SV) (v : SV) (K : SV → Bool) : Bool := match v with
  | .st l' => (match op with
    | .eql => seqK G l (K .t) (K .f) l'
    | .neq => seqK G l (K .f) (K .t) l'
    | _ => false)
  | _ => false
theorem strK_true {ρ : Nat → Nat} {G : List Asm} (hG : ∀ a ∈ G, a.ok ρ) {P : Program} {T : Tab} {tm : Tr Value} {o : Oper} {H : Heap} {op : BinOp} {ty t2 : TypeId} {a b : Operand} {l : List SV} {v : SV} {K : SV → Bool} (ho : o.op = .binOp op ty a b t2) (hx : aeval tm a = some ((SV.st l).inst ρ)) (hy : aeval tm b = some (v.inst ρ)) (h : strK G op l v K = true) :
    ∃ s, aop P T tm o H = some (.val (SV.inst ρ s), H) ∧ K s = true := by
  unfold strK at h
  split at h
  · rename_i l'
    have arr : ∀ {p q : List UInt8}, (⟨⟨p⟩⟩ : ByteArray) = ⟨⟨q⟩⟩ → p = q := fun {p q} e => congrArg (fun x : ByteArray => x.data.toList) e
    split at h
    · rcases seqK_true hG h with ⟨h1, h⟩ | ⟨h1, h⟩
      · exact ⟨.t, fb_bin ho hx hy rfl rfl rfl (seq_run (decide_eq_true (by rw [h1]))) rfl (fun xs e => by cases e), h⟩
      · exact ⟨.f, fb_bin ho hx hy rfl rfl rfl (seq_run (decide_eq_false fun e => h1 (arr e))) rfl (fun xs e => by cases e), h⟩
    · rcases seqK_true hG h with ⟨h1, h⟩ | ⟨h1, h⟩
      · exact ⟨.f, fb_bin ho hx hy rfl rfl rfl (sne_run (decide_eq_true (by rw [h1]))) rfl (fun xs e => by cases e), h⟩
      · exact ⟨.t, fb_bin ho hx hy rfl rfl rfl (sne_run (decide_eq_false fun e => h1 (arr e))) rfl (fun xs e => by cases e), h⟩
    · cases h
  · cases h
/-! Structs -/
def plainS : SV → Bool
  | .n _ _ | .z _ _ | .w _ _ | .t | .f | .np | .ns | .nm | .nf | .st _ => true
  | _ => false
theorem plainS_spec (ρ : Nat → Nat) {v : SV} (h : plainS v = true) : plain (v.inst ρ) = true := by
  cases v <;> first | rfl | (cases h; done)
theorem plainL_spec (ρ : Nat → Nat) : ∀ {l : List SV}, l.all plainS = true → closed (.agg ⟨instL ρ l⟩) = true := by
  intro l
  show _ → (instL ρ l).all plain = true
  induction l with
  | nil => intro _; rfl
  | cons v l ih =>
    intro h
    rw [List.all_cons, Bool.and_eq_true] at h
    rw [instL, List.all_cons, plainS_spec ρ h.1, ih h.2]; rfl
def eqS (G : List Asm) (d : Option TypeDesc) (u v : SV) : Option Bool := match d with
  | some (.int _) => (match wOf u, wOf v with
    | some (k, x), some (k', y) => bif k == k' then eqW G x y else none
    | _, _ => none)
  | some .bool => (match u, v with
    | .t, .t => some true
    | .f, .f => some true
    | .t, .f => some false
    | .f, .t => some false
    | _, _ => none)
  | _ => none
def saeqF (P : Program) (G : List Asm) (xs ys : List SV) : List Field → Option Bool
  | [] => some true
  | f :: r => bif f.name == "_" then none else match xs[f.offset]?, ys[f.offset]?, saeqF P G xs ys r with
    | some u, some v, some q => match eqS G (P.underlying f.type) u v with
      | some b => some (b && q)
      | none => none
    | _, _, _ => none
theorem saeqF_spec {ρ : Nat → Nat} {P : Program} {G : List Asm} (hG : ∀ a ∈ G, a.ok ρ) {xs ys : List SV} : ∀ {fs : List Field} {b : Bool}, saeqF P G xs ys fs = some b → aeqF P ⟨instL ρ xs⟩ ⟨instL ρ ys⟩ fs = some b := by
  intro fs
  induction fs with
  | nil => intro b h; exact h
  | cons f r ih =>
    intro b h
    simp only [saeqF] at h
    simp only [aeqF]
    cases hn : f.name == "_" <;> rw [hn] at h
    · simp only [cond_false] at h ⊢
      split at h
      · rename_i u v q hu hv hq
        have ih := ih hq
        have hu' : (⟨instL ρ xs⟩ : Array Value)[f.offset]? = some (u.inst ρ) := by
          simp only [List.getElem?_toArray, instL_map, List.getElem?_map, hu, Option.map_some]
        have hv' : (⟨instL ρ ys⟩ : Array Value)[f.offset]? = some (v.inst ρ) := by
          simp only [List.getElem?_toArray, instL_map, List.getElem?_map, hv, Option.map_some]
        rw [ih, hu', hv']
        split at h
        · rename_i b' hb
          cases h
          unfold eqS at hb
          split at hb
          · rename_i k0 hd
            rw [hd]
            split at hb
            · rename_i k x k' y hx hy
              rw [wOf_inst ρ hx, wOf_inst ρ hy]
              simp only
              cases hk : k == k' <;> rw [hk] at hb
              · cases hb
              · have := eqW_spec hG hb
                simp only [cond_true]
                congr 2
                rw [← this, nbeq_dec]
                cases hc : Nat.beq (evW ρ x) (evW ρ y)
                · exact (decide_eq_false (Nat.ne_of_beq_eq_false hc)).symm
                · exact (decide_eq_true (Nat.eq_of_beq_eq_true hc)).symm
            · cases hb
          · rename_i hd
            rw [hd]
            split at hb <;> cases hb <;> rfl
          · cases hb
        · cases h
      · cases h
    · cases h
def agK (P : Program) (G : List Asm) (op : BinOp) (ty : TypeId) (l : List SV) (v : SV) (K : SV → Bool) : Bool := match v with
  | .ag l' => ifK (l.all plainS && l'.all plainS) (ifK (isStr (P.underlying ty) && !P.stoodInHeld ty && !P.eqGuardType P.depth ty) (bnd (saeqF P G l l' (fsOf P ty)) fun q => match op with
    | .eql => ifK q (K .t) (K .f)
    | .neq => ifK q (K .f) (K .t)
    | _ => false) false) false
  | _ => false
theorem agK_true {ρ : Nat → Nat} {P : Program} {T : Tab} {G : List Asm} (hG : ∀ a ∈ G, a.ok ρ) {tm : Tr Value} {o : Oper} {H : Heap} {op : BinOp} {ty t2 : TypeId} {a b : Operand} {l : List SV} {v : SV} {K : SV → Bool} (ho : o.op = .binOp op ty a b t2) (hx : aeval tm a = some ((SV.ag l).inst ρ)) (hy : aeval tm b = some (v.inst ρ)) (h : agK P G op ty l v K = true) :
    ∃ s, aop P T tm o H = some (.val (SV.inst ρ s), H) ∧ K s = true := by
  unfold agK at h
  split at h
  · rename_i l'
    rcases ifK_true h with ⟨h1, h⟩ | ⟨_, h⟩
    rotate_left
    · cases h
    rcases ifK_true h with ⟨h2, h⟩ | ⟨_, h⟩
    rotate_left
    · cases h
    obtain ⟨q, h3, h⟩ := bnd_true (r := saeqF P G l l' (fsOf P ty)) h
    simp only [Bool.and_eq_true] at h1
    have hq := saeqF_spec hG h3
    have c1 := plainL_spec ρ h1.1
    have c2 := plainL_spec ρ h1.2
    have e1 : (SV.ag l).inst ρ = .agg ⟨instL ρ l⟩ := rfl
    have e2 : (SV.ag l').inst ρ = .agg ⟨instL ρ l'⟩ := rfl
    rw [e1] at hx
    rw [e2] at hy
    have fin : ∀ r : Bool, aggEq P tm o = some (.bool r) → aop P T tm o H = some (.val (.bool r), H) := fun r hr => by
      unfold aop
      simp only [ho, hx, hy]
      have : abin T op ty (.agg ⟨instL ρ l⟩) (.agg ⟨instL ρ l'⟩) = none := rfl
      simp only [this, orVal, fallback, hr, ho, Op.operands, List.all_cons, List.all_nil, dataAt, hx, hy, c1, c2, Bool.and_self, cond_true, val]
    split at h
    · refine ⟨bSV q, ?_, by rcases ifK_true h with ⟨h4, h⟩ | ⟨h4, h⟩ <;> (rw [h4]; exact h)⟩
      rw [bSV_inst]
      refine fin q ?_
      unfold aggEq
      simp only [ho, hx, hy, h2, cond_true, hq]
    · refine ⟨bSV !q, ?_, by rcases ifK_true h with ⟨h4, h⟩ | ⟨h4, h⟩ <;> (rw [h4]; exact h)⟩
      rw [bSV_inst]
      refine fin (!q) ?_
      unfold aggEq
      simp only [ho, hx, hy, h2, cond_true, hq]
    · cases h
  · cases h
def binS (E : Env) (op : BinOp) (ty : TypeId) (u v : SV) (K : SV → Bool) : Bool := match u with
  | .st l => strK E.G op l v K
  | .ag l => agK E.P E.G op ty l v K
  | u => binK E.G E.T op ty u v K
def binJ (E : Env) (op : BinOp) (ty : TypeId) (u v : SV) (K : SV → Bool) : Bool := Nn.rec (motive := fun _ => Bool) (binS E op ty u v K) (fun k a => Nn.rec (motive := fun _ => Bool) (binS E op ty u v K) (fun k' b => Bx.rec (motive := fun _ => Bool) (fun g => g k k' a b K) (natB op)) (asN v)) (asN u)
def hBin (op : BinOp) (ty : TypeId) (x y : Operand) : Hd := fun E tm o t n K => evK x tm fun u => evK y tm fun v => binJ E op ty u v fun s => K s t n
theorem hBin_ok {ρ : Nat → Nat} {E : Env} (hE : EnvOk ρ E) (op : BinOp) (ty t2 : TypeId) (x y : Operand) : HdOk ρ E (.binOp op ty x y t2) (hBin op ty x y) := by
  intro tm tr hT o t n K ho h
  obtain ⟨u, h1, h⟩ := evK_true hT h
  obtain ⟨v, h2, h⟩ := evK_true hT h
  have slow : (binS E op ty u v fun s => K s t n) = true → OpV ρ E tr o t n K := fun h => by
    unfold binS at h
    split at h
    · obtain ⟨s, h3, h⟩ := strK_true hE.G (P := E.P) (T := E.T) (H := instH ρ t n) ho h1 h2 h
      exact opV s h3 h
    · obtain ⟨s, h3, h⟩ := agK_true hE.G (P := E.P) (T := E.T) (H := instH ρ t n) ho h1 h2 h
      exact opV s h3 h
    · obtain ⟨s, h3, h⟩ := binK_true hE.G h
      exact opV s (by unfold aop; simp only [ho, h1, h2, h3, orVal, val]) h
  unfold binJ at h
  cases hu : asN u with
  | no => rw [hu] at h; exact slow h
  | yes k a =>
    rw [hu] at h
    cases hv : asN v with
    | no => rw [hv] at h; exact slow h
    | yes k' b =>
      rw [hv] at h
      obtain ⟨s, h3, h4⟩ := natB_true ρ (T := E.T) (ty := ty) h
      obtain rfl := asN_yes hu
      obtain rfl := asN_yes hv
      exact opV s (by unfold aop; simp only [ho, h1, h2, SV.inst]; rw [h3]; rfl) h4
/-! Changes of type -/
def intD : Option TypeDesc → Option IntKind | some (.int k) => some k | _ => none
theorem intD_spec {d : Option TypeDesc} {k : IntKind} (h : intD d = some k) : d = some (.int k) := by
  unfold intD at h
  split at h
  · cases h; rfl
  · cases h
def hasD (T : Tab) (s : TypeId) : Bool := match T.under s with | some _ => true | none => false
theorem hasD_spec {T : Tab} {s : TypeId} (h : hasD T s = true) : ∃ d, T.under s = some d := by
  unfold hasD at h
  split at h
  · exact ⟨_, by assumption⟩
  · cases h
def wrapK (k : IntKind) (z : Int) (K : SV → Bool) : Bool := bnd (cv0 (.int k (k.wrap z))) fun s => fSV s K
def byte1 (v : SV) (K : Bool) : Bool := match v with
  | .n .u8 _ => K
  | .w .u8 _ => K
  | _ => false
def byteLK (l : List SV) (K : Bool) : Bool := List.rec (motive := fun _ => Bool) K (fun v _ ih => byte1 v ih) l
theorem bytesOf_go (ρ : Nat → Nat) {K : Bool} : ∀ (l : List SV) (acc : ByteArray), byteLK l K = true → bytesOf.go (l.map (SV.inst ρ)) acc = some ⟨⟨acc.data.toList ++ l.map (byteOf ρ)⟩⟩ ∧ K = true := by
  intro l
  induction l with
  | nil => intro acc h; exact ⟨by simp [bytesOf.go], h⟩
  | cons v l ih =>
    intro acc h
    have h : byte1 v (byteLK l K) = true := h
    unfold byte1 at h
    have push : ∀ b : UInt8, (⟨⟨(acc.push b).data.toList ++ l.map (byteOf ρ)⟩⟩ : ByteArray) = ⟨⟨acc.data.toList ++ b :: l.map (byteOf ρ)⟩⟩ := fun b => by
      simp [ByteArray.push]
    split at h
    · rename_i a _
      obtain ⟨h1, h2⟩ := ih (acc.push (byteOf ρ (.n .u8 a))) h
      refine ⟨?_, h2⟩
      rw [List.map_cons, List.map_cons, ← push, ← h1]
      rfl
    · rename_i a _
      obtain ⟨h1, h2⟩ := ih (acc.push (byteOf ρ (.w .u8 a))) h
      refine ⟨?_, h2⟩
      rw [List.map_cons, List.map_cons, ← push, ← h1]
      rfl
    · cases h
theorem bytesOf_K (ρ : Nat → Nat) {K : Bool} {l : List SV} (h : byteLK l K = true) : bytesOf (l.map (SV.inst ρ)) = some ⟨⟨l.map (byteOf ρ)⟩⟩ ∧ K = true := by
  obtain ⟨h1, h2⟩ := bytesOf_go ρ l .empty h
  exact ⟨h1, h2⟩
def strD : Option TypeDesc → Bool | some .string => true | _ => false
def sliceU8 (T : Tab) (s : TypeId) : Bool := match T.under s with | some (.slice e) => isU8 (T.under e) | _ => false
def convK (T : Tab) (s d : TypeId) (v : SV) (t : HT) (K : SV → Bool) : Bool := match v with
  | .n _ a => ifK (hasD T s) (bnd (intD (T.under d)) fun k => ifK (Nat.blt a (lim k)) (K (.n k a)) (wrapK k (Int.ofNat a) K)) false
  | .z _ a => ifK (hasD T s) (bnd (intD (T.under d)) fun k => wrapK k (Int.negSucc a) K) false
  | .w _ x => ifK (hasD T s) (bnd (intD (T.under d)) fun k => bnd (wrapW k x) fun q => fSV (mkI k q) K) false
  | .ns => ifK (sliceU8 T s && strD (T.under d)) (K (.st [])) false
  | .sl b off n _ => ifK (sliceU8 T s && strD (T.under d)) (obK b t fun c e r => crK c off n fun l => byteLK l (K (.st l))) false
  | _ => false
theorem wrapK_true (ρ : Nat → Nat) {k : IntKind} {z : Int} {K : SV → Bool} (h : wrapK k z K = true) : ∃ s, (.int k (k.wrap z) : Value) = SV.inst ρ s ∧ K s = true := by
  obtain ⟨s, h1, h⟩ := bnd_true (r := cv0 (.int k (k.wrap z))) h
  rw [fSV_eq] at h
  exact ⟨s, (cv0_spec ρ h1).1.symm, h⟩
theorem convK_true (ρ : Nat → Nat) {T : Tab} {s d : TypeId} {v : SV} {t : HT} {n : Nat} {K : SV → Bool} (h : convK T s d v t K = true) : ∃ u, aconvert T s d (v.inst ρ) (instH ρ t n) = some (SV.inst ρ u) ∧ K u = true := by
  have two : ∀ {a b : Bool}, ifK a b false = true → a = true ∧ b = true := fun {a b} h => by
    cases a
    · cases h
    · exact ⟨rfl, h⟩
  have num : ∀ (q : IntKind) (z : Int) (k : IntKind), hasD T s = true → intD (T.under d) = some k → aconvert T s d (.int q z) (instH ρ t n) = some (.int k (k.wrap z)) := fun q z k h1 h2 => by
    obtain ⟨e, he⟩ := hasD_spec h1
    unfold aconvert
    simp only [he, intD_spec h2]
  unfold convK at h
  split at h
  · obtain ⟨h1, h⟩ := two h
    obtain ⟨k, h2, h⟩ := bnd_true (r := intD (T.under d)) h
    rcases ifK_true h with ⟨h3, h⟩ | ⟨_, h⟩
    · exact ⟨_, by rw [SV.inst, num _ _ k h1 h2, wrap_lim (blt_lt h3)]; rfl, h⟩
    · obtain ⟨u, h4, h⟩ := wrapK_true ρ h
      exact ⟨u, by rw [SV.inst, num _ _ k h1 h2, h4], h⟩
  · obtain ⟨h1, h⟩ := two h
    obtain ⟨k, h2, h⟩ := bnd_true (r := intD (T.under d)) h
    obtain ⟨u, h4, h⟩ := wrapK_true ρ h
    exact ⟨u, by rw [SV.inst, num _ _ k h1 h2, h4], h⟩
  · rename_i x
    obtain ⟨h1, h⟩ := two h
    obtain ⟨k, h2, h⟩ := bnd_true (r := intD (T.under d)) h
    obtain ⟨q, h3, h⟩ := bnd_true (r := wrapW k x) h
    rw [fSV_eq] at h
    exact ⟨_, by rw [SV.inst, num _ _ k h1 h2, wrapW_ev ρ h3, mkI_inst], h⟩
  · obtain ⟨h1, h⟩ := two h
    simp only [Bool.and_eq_true, sliceU8, strD] at h1
    obtain ⟨h1, h2⟩ := h1
    split at h1
    · rename_i e he
      split at h2
      · rename_i hd
        refine ⟨_, ?_, h⟩
        unfold aconvert
        simp only [he, hd, SV.inst, h1, cond_true]
        rfl
      · cases h2
    · cases h1
  · rename_i b off m cp
    obtain ⟨h1, h⟩ := two h
    simp only [Bool.and_eq_true, sliceU8, strD] at h1
    obtain ⟨h1, h2⟩ := h1
    split at h1
    · rename_i e he
      split at h2
      · rename_i hd
        obtain ⟨c, e', r, h3, h⟩ := obK_true h
        obtain ⟨h4, h⟩ := crK_true (c := c) (i := off) (n := m) (K := fun l => byteLK l (K (.st l))) h
        obtain ⟨h5, h⟩ := bytesOf_K ρ h
        refine ⟨_, ?_, h⟩
        unfold aconvert
        have e1 : ((c.toL.map (SV.inst ρ)).drop off).take m = ((c.toL.drop off).take m).map (SV.inst ρ) := by rw [List.map_take, List.map_drop]
        simp only [he, hd, SV.inst, h1, cond_true, h3 ρ n, e1, List.length_map, h4, Nat.beq_refl, h5]
      · cases h2
    · cases h1
  · cases h
def hConvert (s d : TypeId) (x : Operand) : Hd := fun E tm o t n K => evK x tm fun v => convK E.T s d v t fun u => K u t n
theorem hConvert_ok (ρ : Nat → Nat) (E : Env) (s d : TypeId) (x : Operand) : HdOk ρ E (.convert s d x) (hConvert s d x) := by
  intro tm tr hT o t n K ho h
  obtain ⟨v, h1, h⟩ := evK_true hT h
  obtain ⟨u, h2, h⟩ := convK_true ρ (n := n) h
  exact opV u (by unfold aop; simp only [ho, h1, h2, orVal, val]) h
end
end Go.Ev
