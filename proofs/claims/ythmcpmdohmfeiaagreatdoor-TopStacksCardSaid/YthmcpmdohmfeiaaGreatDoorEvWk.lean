/- Operations on values that are not known whole: calls. -/
import Derived.Test.YthmcpmdohmfeiaaGreatDoorEvWj
namespace Go.Ev
open Go
set_option linter.unusedVariables false
set_option linter.unusedSimpArgs false
set_option linter.constructorNameAsVariable false
noncomputable section
def cpI (T : Tab) (t : TypeId) : Option Nat := match T.under t with
  | some (.slice e) => match T.size e with
    | some (s + 1) => some (s + 1)
    | _ => none
  | _ => none
def trimK (d : Nat) (x : SV) (K : Nat → SV → Bool) : Bool := match x with
  | .ns => K 0 .ns
  | .sl b off m c => fN (Nat.min m d) fun q => K q (.sl b off q c)
  | .st s => ifK (s.length.ble d) (fN s.length fun q => K q (.st s)) false
  | _ => false
theorem trimK_true (ρ : Nat → Nat) {d : Nat} {x : SV} {K : Nat → SV → Bool} (h : trimK d x K = true) : ∃ q y, atrim d (x.inst ρ) = some (q, SV.inst ρ y) ∧ K q y = true := by
  unfold trimK at h
  split at h
  · exact ⟨0, .ns, by show some (Nat.min 0 d, Value.slice none (Nat.min 0 d) 0) = _; rw [show Nat.min 0 d = 0 from Nat.zero_min d]; rfl, h⟩
  · rw [fN_eq] at h
    exact ⟨_, _, rfl, h⟩
  · rename_i s
    obtain ⟨h1, h⟩ := ifF_true h
    rw [fN_eq] at h
    refine ⟨s.length, .st s, ?_, h⟩
    have h2 := Nat.le_of_ble_eq_true h1
    simp only [SV.inst, atrim]
    have hs : (⟨⟨s.map (byteOf ρ)⟩⟩ : ByteArray).size = s.length := by
      show (s.map (byteOf ρ)).length = _
      rw [List.length_map]
    have hm : Nat.min (⟨⟨s.map (byteOf ρ)⟩⟩ : ByteArray).size d = s.length := by rw [hs]; exact Nat.min_eq_left h2
    rw [hm]
    congr 3
    have : (⟨⟨s.map (byteOf ρ)⟩⟩ : ByteArray).extract 0 s.length = ⟨⟨s.map (byteOf ρ)⟩⟩ := by
      conv => lhs; rw [← hs]
      exact ByteArray.extract_zero_size
    exact this
  · cases h
def lenD : SV → Option Nat
  | .ns => some 0
  | .sl _ _ m _ => some m
  | _ => none
def cpyK (T : Tab) (dt : TypeId) (d x : SV) (t : HT) (n : Nat) (K : KV) : Bool := bnd (cpI T dt) fun sz => bnd (lenD d) fun dl => trimK dl x fun q y => srcK sz y t fun m l => isNil l (K (.n .i64 q) t n) (match d with
  | .sl b off _ _ => obK b t fun c e r => Bool.rec (motive := fun _ => Bool) (onesK l (wrK c off l fun c => hpK b (some ⟨c, e, false⟩) t fun t => K (.n .i64 q) t n)) false r
  | _ => false)
theorem cpyK_true (ρ : Nat → Nat) {T : Tab} {dt : TypeId} {d x : SV} {t : HT} {n : Nat} {K : KV} (h : cpyK T dt d x t n K = true) :
    ∃ v t' n', acopy T dt (d.inst ρ) (x.inst ρ) (instH ρ t n) = some (SV.inst ρ v, instH ρ t' n') ∧ K v t' n' = true := by
  obtain ⟨sz, h1, h⟩ := bnd_true (r := cpI T dt) h
  obtain ⟨dl, h2, h⟩ := bnd_true (r := lenD d) h
  obtain ⟨q, y, h3, h⟩ := trimK_true ρ h
  obtain ⟨m, l, h4, hh⟩ := srcK_true ρ (n := n) h
  unfold cpI at h1
  split at h1
  · rename_i e hu
    split at h1
    · rename_i s hs
      cases h1
      rcases isNil_true hh with ⟨rfl, hk⟩ | ⟨hl, hk⟩
      · refine ⟨_, t, n, ?_, hk⟩
        cases d <;> simp only [lenD] at h2 <;> cases h2 <;> simp only [acopy, hu, SV.inst, hs, h3, h4, List.map_nil] <;> rfl
      · split at hk
        · rename_i b off dl' cp _ _ _ _ _ _
          cases h2
          obtain ⟨c, e1, r, g1, h⟩ := obK_true hk
          cases r
          rotate_left
          · cases h
          obtain ⟨g2, h⟩ := onesK_true ρ h
          obtain ⟨c', k1, k2, h⟩ := wrK_true h
          obtain ⟨t', ht, h⟩ := hpK_true h
          refine ⟨_, t', n, ?_, h⟩
          have := wr_put ρ (n := n) g1 ht g2 k1 k2
          cases l with
          | nil => exact absurd rfl hl
          | cons a l => simp only [acopy, hu, SV.inst, hs, h3, h4, List.map_cons] at this ⊢; rw [this]; rfl
        · cases hk
    · cases h1
  · cases h1
def mmL (mx : Bool) (u v : SV) (K : SV → Bool) : Bool := match litV u, litV v with
  | some (.int k x), some (.int _ y) => bnd (cv0 (.int k (bif mx then (if y > x then y else x) else (if y < x then y else x)))) fun s => fSV s K
  | _, _ => false
theorem mmL_true (ρ : Nat → Nat) {mx : Bool} {u v : SV} {K : SV → Bool} (h : mmL mx u v K = true) :
    ∃ k x k' y s, u.inst ρ = .int k x ∧ v.inst ρ = .int k' y ∧ (.int k (bif mx then (if y > x then y else x) else (if y < x then y else x)) : Value) = SV.inst ρ s ∧ K s = true := by
  unfold mmL at h
  split at h
  · rename_i k x k' y h1 h2
    obtain ⟨s, h3, h⟩ := bnd_true (r := cv0 (.int k (bif mx then (if y > x then y else x) else (if y < x then y else x)))) h
    rw [fSV_eq] at h
    exact ⟨k, x, k', y, s, (litV_spec ρ h1).1, (litV_spec ρ h2).1, (cv0_spec ρ h3).1.symm, h⟩
  · cases h
def mmK (G : List Asm) (mx : Bool) (u v : SV) (K : SV → Bool) : Bool := match u with
  | .n k a => (match v with
    | .n _ b => ifK (bif mx then Nat.blt a b else Nat.blt b a) (K (.n k b)) (K (.n k a))
    | .w _ y => bnd (bif mx then ltW G (litW a) y else ltW G y (litW a)) fun q => ifK q (fSV (mkI k y) K) (K (.n k a))
    | v => mmL mx (.n k a) v K)
  | .w k x => (match v with
    | .n _ b => bnd (bif mx then ltW G x (litW b) else ltW G (litW b) x) fun q => ifK q (K (.n k b)) (K (.w k x))
    | .w _ y => bnd (bif mx then ltW G x y else ltW G y x) fun q => ifK q (fSV (mkI k y) K) (K (.w k x))
    | _ => false)
  | u => mmL mx u v K
theorem mmK_true {ρ : Nat → Nat} {G : List Asm} (hG : ∀ a ∈ G, a.ok ρ) {mx : Bool} {u v : SV} {K : SV → Bool} (h : mmK G mx u v K = true) :
    ∃ k x k' y s, u.inst ρ = .int k x ∧ v.inst ρ = .int k' y ∧ (.int k (bif mx then (if y > x then y else x) else (if y < x then y else x)) : Value) = SV.inst ρ s ∧ K s = true := by
  have key : ∀ (k : IntKind) (x y : Nat) (q : Bool), (bif mx then decide (x < y) else decide (y < x)) = q → (.int k (bif mx then (if Int.ofNat y > Int.ofNat x then Int.ofNat y else Int.ofNat x) else (if Int.ofNat y < Int.ofNat x then Int.ofNat y else Int.ofNat x)) : Value) = .int k (Int.ofNat (bif q then y else x)) := fun k x y q h => by
    congr 1
    cases mx <;> simp only [cond_false, cond_true] at h ⊢
    · cases q
      · have : ¬ y < x := of_decide_eq_false h
        rw [if_neg (by simpa using this)]; rfl
      · have : y < x := of_decide_eq_true h
        rw [if_pos (by simpa using this)]; rfl
    · cases q
      · have : ¬ x < y := of_decide_eq_false h
        rw [if_neg (by simpa using this)]; rfl
      · have : x < y := of_decide_eq_true h
        rw [if_pos (by simpa using this)]; rfl
  have dec : ∀ {x y : W} {q : Bool}, (bif mx then ltW G x y else ltW G y x) = some q → (bif mx then decide (evW ρ x < evW ρ y) else decide (evW ρ y < evW ρ x)) = q := fun {x y q} h => by
    cases mx
    · exact ltW_spec hG h
    · exact ltW_spec hG h
  unfold mmK at h
  split at h
  · rename_i k a
    split at h
    · rename_i k' b
      refine ⟨k, _, k', _, .n k (bif (bif mx then Nat.blt a b else Nat.blt b a) then b else a), rfl, rfl, ?_, ?_⟩
      · refine key k a b _ ?_
        cases mx <;> simp only [cond_false, cond_true]
        · have := nblt_dec b a
          simpa using this
        · have := nblt_dec a b
          simpa using this
      · rcases ifK_true h with ⟨h1, h⟩ | ⟨h1, h⟩ <;> (rw [h1]; exact h)
    · rename_i k' y
      obtain ⟨q, h1, h⟩ := bnd_true (r := bif mx then ltW G (litW a) y else ltW G y (litW a)) h
      have h2 := dec h1
      rw [litW_ev] at h2
      rcases ifK_true h with ⟨rfl, h'⟩ | ⟨rfl, h'⟩
      · rw [fSV_eq] at h'
        exact ⟨k, _, k', _, _, rfl, rfl, by rw [key k a _ _ h2, mkI_inst]; rfl, h'⟩
      · exact ⟨k, _, k', _, _, rfl, rfl, by rw [key k a _ _ h2]; rfl, h'⟩
    · exact mmL_true ρ h
  · rename_i k x
    split at h
    · rename_i k' b
      obtain ⟨q, h1, h⟩ := bnd_true (r := bif mx then ltW G x (litW b) else ltW G (litW b) x) h
      have h2 := dec h1
      rw [litW_ev] at h2
      rcases ifK_true h with ⟨rfl, h'⟩ | ⟨rfl, h'⟩
      · exact ⟨k, _, k', _, _, rfl, rfl, by rw [key k _ b _ h2]; rfl, h'⟩
      · exact ⟨k, _, k', _, _, rfl, rfl, by rw [key k _ b _ h2]; rfl, h'⟩
    · rename_i k' y
      obtain ⟨q, h1, h⟩ := bnd_true (r := bif mx then ltW G x y else ltW G y x) h
      have h2 := dec h1
      rcases ifK_true h with ⟨rfl, h'⟩ | ⟨rfl, h'⟩
      · rw [fSV_eq] at h'
        exact ⟨k, _, k', _, _, rfl, rfl, by rw [key k _ _ _ h2, mkI_inst]; rfl, h'⟩
      · exact ⟨k, _, k', _, _, rfl, rfl, by rw [key k _ _ _ h2]; rfl, h'⟩
    · cases h
  · exact mmL_true ρ h
def slE (T : Tab) (t : TypeId) : Option TypeId := match T.under t with
  | some (.slice e) => some e
  | _ => none
theorem slE_spec {T : Tab} {t e : TypeId} (h : slE T t = some e) : T.under t = some (.slice e) := by
  unfold slE at h
  split at h
  · cases h; assumption
  · cases h
def clrK (E : Env) (ty : TypeId) (v : SV) (t : HT) (n : Nat) (K : KV) : Bool := bnd (slE E.T ty) fun e => match v with
  | .ns => K (.tu []) t n
  | .sl b off m _ => ifK (m.beq 0) (K (.tu []) t n) (bnd (zeroP E e) fun zs => obK b t fun c e r => Bool.rec (motive := fun _ => Bool) (onesK (baseL (manyP zs m)) (wrK c off (baseL (manyP zs m)) fun c => hpK b (some ⟨c, e, false⟩) t fun t => K (.tu []) t n)) false r)
  | _ => false
theorem clrK_true {ρ : Nat → Nat} {E : Env} (hE : EnvOk ρ E) {ty : TypeId} {v : SV} {t : HT} {n : Nat} {K : KV} (h : clrK E ty v t n K = true) :
    ∃ a m c t' n', v.inst ρ = .slice a m c ∧ (∃ e, E.T.under ty = some (.slice e)) ∧ aclear E.T ty a m (instH ρ t n) = some (instH ρ t' n') ∧ K (.tu []) t' n' = true := by
  obtain ⟨e, h1, h⟩ := bnd_true (r := slE E.T ty) h
  have hu := slE_spec h1
  split at h
  · exact ⟨none, 0, 0, t, n, rfl, ⟨e, hu⟩, rfl, h⟩
  · rename_i b off m cp _
    refine ⟨some ⟨b, off, none⟩, m, cp, ?_⟩
    rcases ifK_true h with ⟨h2, h⟩ | ⟨h2, h⟩
    · obtain rfl := Nat.eq_of_beq_eq_true h2
      exact ⟨t, n, rfl, ⟨e, hu⟩, rfl, h⟩
    · obtain ⟨zs, h3, h⟩ := bnd_true (r := zeroP E e) h
      obtain ⟨z, z1, z2, z3⟩ := zeroP_spec hE h3
      obtain ⟨c, e1, r, g1, h⟩ := obK_true h
      cases r
      rotate_left
      · cases h
      obtain ⟨g2, h⟩ := onesK_true ρ h
      obtain ⟨c', k1, k2, h⟩ := wrK_true h
      obtain ⟨t', ht, h⟩ := hpK_true h
      refine ⟨t', n, rfl, ⟨e, hu⟩, ?_, h⟩
      have := wr_put ρ (n := n) g1 ht g2 k1 k2
      have hz : zerosOf z.cells.toList m = (baseL (manyP zs m)).map (SV.inst ρ) := by
        rw [baseL_many, zerosOf_flat, z3, List.map_flatten, List.map_replicate]
      cases m with
      | zero => cases h2
      | succ m => simp only [aclear, hu, z1, z2, cond_true, hz, this]
  · cases h
/-! A call's own value -/
def bltK (E : Env) (b : Builtin) (ts : List TypeId) (vs : List SV) (t : HT) (n : Nat) (K : KV) : Bool := match b with
  | .append => (match ts, vs with
    | [st, xt], [s, x] => appK E.T st xt s x t n K
    | _, _ => false)
  | .copy => (match ts, vs with
    | [dt, _], [d, x] => cpyK E.T dt d x t n K
    | _, _ => false)
  | .len => (match ts, vs with
    | [ty], [.sl _ _ m _] => ifK (isSl (E.T.under ty)) (K (.n .i64 m) t n) false
    | [ty], [.ns] => ifK (isSl (E.T.under ty)) (K (.n .i64 0) t n) false
    | _, _ => false)
  | .clear => (match ts, vs with
    | [ty], [v] => clrK E ty v t n K
    | _, _ => false)
  | .max => (match vs with
    | [u, v] => mmK E.G true u v fun s => K s t n
    | _ => false)
  | .min => (match vs with
    | [u, v] => mmK E.G false u v fun s => K s t n
    | _ => false)
  | _ => false
def hBlt (c : Call) : Hd := fun E tm o t n K => match c.callee with
  | .builtin b => evsK c.args.toList tm fun vs => bltK E b c.argTypes.toList vs t n K
  | _ => false
theorem bltK_ok {ρ : Nat → Nat} {E : Env} (hE : EnvOk ρ E) {c : Call} {tr : Tr Value} {o : Oper} {t : HT} {n : Nat} {K : KV} {b : Builtin} {vs : List SV} (ho : o.op = .call c) (hb : c.callee = .builtin b) (h1 : aevals tr c.args.toList = some (instL ρ vs)) (h : bltK E b c.argTypes.toList vs t n K = true) : OpV ρ E tr o t n K := by
    have start : ∀ r, acall E.P E.T tr o c (instH ρ t n) = r → aop E.P E.T tr o (instH ρ t n) = r := fun r hr => by
      unfold aop; simp only [ho]; exact hr
    unfold bltK at h
    split at h
    · split at h
      · rename_i st xt s x ht
        obtain ⟨v, t', n', h2, h⟩ := appK_true ρ h
        exact opV v (start _ (by unfold acall; simp only [hb, ht, h1, instL, h2, val2])) h
      · cases h
    · split at h
      · rename_i dt _ d x ht
        obtain ⟨v, t', n', h2, h⟩ := cpyK_true ρ h
        exact opV v (start _ (by unfold acall; simp only [hb, ht, h1, instL, h2, val2])) h
      · cases h
    · split at h
      · rename_i ty b' off m cp ht
        obtain ⟨h2, h⟩ := ifF_true h
        obtain ⟨e, he⟩ := isSl_spec h2
        exact opV _ (start _ (by unfold acall; simp only [hb, ht, h1, instL, SV.inst, he]; rfl)) h
      · rename_i ty ht
        obtain ⟨h2, h⟩ := ifF_true h
        obtain ⟨e, he⟩ := isSl_spec h2
        exact opV _ (start _ (by unfold acall; simp only [hb, ht, h1, instL, SV.inst, he]; rfl)) h
      · cases h
    · split at h
      · rename_i ty v ht
        obtain ⟨a, m, cp, t', n', h2, ⟨e, he⟩, h3, h⟩ := clrK_true hE h
        exact opV _ (start _ (by unfold acall; simp only [hb, ht, h1, instL, h2, he, h3]; rfl)) h
      · cases h
    · split at h
      · rename_i u v
        obtain ⟨k, x, k', y, s, e1, e2, e3, h⟩ := mmK_true hE.G h
        refine opV s (start _ (by unfold acall; simp only [hb, h1, instL, e1, e2, ← e3]; rfl)) h
      · cases h
    · split at h
      · rename_i u v
        obtain ⟨k, x, k', y, s, e1, e2, e3, h⟩ := mmK_true hE.G h
        refine opV s (start _ (by unfold acall; simp only [hb, h1, instL, e1, e2, ← e3]; rfl)) h
      · cases h
    · cases h
theorem hBlt_ok {ρ : Nat → Nat} {E : Env} (hE : EnvOk ρ E) (c : Call) : HdOk ρ E (.call c) (hBlt c) := by
  intro tm tr hT o t n K ho h
  unfold hBlt at h
  split at h
  · rename_i b hb
    obtain ⟨vs, h1, h⟩ := evsK_true hT h
    exact bltK_ok hE ho hb h1 h
  · cases h
end
end Go.Ev
