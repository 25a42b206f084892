/- Guests' ways from a state to the end, put together run by run; what words come to is worked out by the kernel. -/
import Derived.Test.YthmcpmdohmfeiaaGreatDoorTs
namespace Go.Proofs.YthmcpmdohmfeiaaGreatDoor
open Go Go.Ev
set_option linter.unusedVariables false
namespace Tp
noncomputable section
/-- From a memory to the end in so many runs. -/
def Wy (H E : Heap) (r : Nat) : Prop := ∃ X, Fam X ∧ X r H ∧ ∀ S, X 0 S → S = E
theorem wy_last {E : Heap} (t : Told E) (l : Lk true E) : Wy E E 0 :=
  ⟨fun r S => r = 0 ∧ S = E, ⟨fun r S h => by obtain ⟨T, ρ, e⟩ := t; rw [h.2, e]; exact ⟨tbH_wf _ _, fun b hb => tbH_wr hb⟩,
    fun r S h => by obtain ⟨hr, hS⟩ := h; subst hr hS; exact l _ ⟨rfl, rfl⟩,
    fun r S h => by cases h.1⟩, ⟨rfl, rfl⟩, fun S h => h.2⟩
theorem wy_cons {H H1 E : Heap} {r : Nat} (t : Told H) (l : Lk false H) (p : Rn8 H H1) (k : Wy H1 E r) : Wy H E (r + 1) := by
  obtain ⟨X, hF, hX, hE⟩ := k
  refine ⟨fun q S => X q S ∨ (q = r + 1 ∧ S = H), ⟨fun q S h => ?_, fun q S h => ?_, fun q S h => ?_⟩, .inr ⟨rfl, rfl⟩, fun S h => ?_⟩
  · rcases h with h | ⟨_, rfl⟩
    · exact hF.wf q S h
    · obtain ⟨T, ρ, e⟩ := t
      rw [e]; exact ⟨tbH_wf _ _, fun b hb => tbH_wr hb⟩
  · rcases h with h | ⟨rfl, rfl⟩
    · exact (hF.st q S h).mono fun v H' hv => ⟨hv.1, let ⟨S, θ, h1, h2⟩ := hv.2; ⟨S, θ, .inl h1, h2⟩⟩
    · exact l _ (.inr ⟨rfl, rfl⟩)
  · rcases h with h | ⟨hq, rfl⟩
    · exact (hF.run q S h).mono fun v H' hv => ⟨hv.1, let ⟨S, θ, h1, h2⟩ := hv.2; ⟨S, θ, .inl h1, h2⟩⟩
    · obtain rfl : q = r := by omega
      exact p _ (.inl hX)
  · rcases h with h | ⟨h, _⟩
    · exact hE S h
    · cases h
theorem job_wy [Bs] [Tz1] {ρ : Nat → Nat} {j : Job} {n r : Nat} (k : Wy (tbH j.S (valS ρ j.X)) (tbH j.E ρ) r) (hrest : j.rest = [.n .i64 n]) (hn : n < 9223372036854775807) (hr : r ≤ n) (hl : ledB j.S = tt) (h0 : j.S.length ≤ 32767) (h1 : ∃ tb r, j.S = some tb :: r) (hs : simB j.E = tt) : JobOk Tryz.prog 34 ρ j := by
  obtain ⟨X, hF, hX, hE⟩ := k
  exact job_ok hF hrest hn hX hr hE hl h0 h1 hs
/-! Words' values -/
def totW : W → Nat
  | [] => 0
  | s :: r => s.w + totW r
theorem seg_lt (ρ : Nat → Nat) (s : Seg) : s.val ρ < 2 ^ s.w := by
  cases s <;> exact Nat.mod_lt _ (Nat.pow_pos (by decide))
theorem evW_tot (ρ : Nat → Nat) : ∀ w : W, evW ρ w < 2 ^ totW w
  | [] => by simp only [evW]; exact Nat.pow_pos (by decide)
  | s :: r => by
    have h1 := seg_lt ρ s
    have h2 := evW_tot ρ r
    simp only [evW, totW, Nat.pow_add]
    generalize 2 ^ s.w = A at *
    generalize 2 ^ totW r = B at *
    generalize s.val ρ = u at *
    generalize evW ρ r = v at *
    have : A * (v + 1) ≤ A * B := Nat.mul_le_mul (Nat.le_refl _) h2
    rw [Nat.mul_add] at this
    omega
/-- Variables and how wide they are. -/
abbrev Vs := List (Nat × Nat)
def Bd (ρ : Nat → Nat) (V : Vs) : Prop := ∀ p ∈ V, ρ p.1 < 2 ^ p.2
/-- A word's value; a variable that stands alone is what it is. -/
def nw (ρ : Nat → Nat) (w : W) : Nat := match w with
  | [.v j 0 _] => ρ j
  | w => evW ρ w
def nxt (ρ : Nat → Nat) (X : Sg) (i : Nat) : Nat := match fdS X i with
  | some w => nw ρ w
  | none => 0
def inV (V : Vs) (j w : Nat) : Bool := V.any fun p => Nat.beq p.1 j && Nat.ble p.2 w
theorem inV_true {ρ : Nat → Nat} {V : Vs} {j w : Nat} (hb : Bd ρ V) (h : inV V j w = true) : ρ j < 2 ^ w := by
  obtain ⟨p, hp, h⟩ := List.any_eq_true.1 h
  obtain ⟨h1, h2⟩ := (Bool.and_eq_true _ _ ▸ h : _ ∧ _)
  have e := Nat.eq_of_beq_eq_true h1
  subst e
  exact Nat.lt_of_lt_of_le (hb p hp) (Nat.pow_le_pow_right (by decide) (Nat.le_of_ble_eq_true h2))
/-- Variables that stand alone are taken whole. -/
def vsB (V : Vs) (X : Sg) : Bool := X.all fun p => match p.2 with
  | [.v j 0 w] => inV V j w
  | _ => true
theorem nw_ev {ρ : Nat → Nat} {V : Vs} (hb : Bd ρ V) {w : W} (h : (match w with | [.v j 0 w] => inV V j w | _ => true) = true) : nw ρ w = evW ρ w := by
  unfold nw
  split
  · rename_i j b
    have := inV_true hb h
    simp only [evW, Seg.val, Seg.w]
    rw [Nat.pow_zero, Nat.div_one, Nat.mod_eq_of_lt this]
    omega
  · rfl
theorem fd_of_ex {X σ : Sg} (h : exK X σ = true) : ∀ p ∈ X, fdS σ p.1 = some p.2 := fun p hp => by
  have := List.all_eq_true.1 h p hp
  split at this
  · rename_i w hw
    rw [hw, wEq_sound _ _ this]
  · cases this
theorem nxt_ev {ρ : Nat → Nat} {V : Vs} (hb : Bd ρ V) {X : Sg} (hx : exK X X = true) (hv : vsB V X = true) : ∀ p ∈ X, nxt ρ X p.1 = evW ρ p.2 := fun p hp => by
  unfold nxt
  rw [fd_of_ex hx p hp]
  exact nw_ev hb (List.all_eq_true.1 hv p hp)
def wdB (X : Sg) (V : Vs) : Bool := V.all fun q => match fdS X q.1 with
  | some w => Nat.ble (totW w) q.2
  | none => false
theorem nxt_bd {ρ : Nat → Nat} {V V' : Vs} (hb : Bd ρ V) {X : Sg} (hx : exK X X = true) (hv : vsB V X = true) (hw : wdB X V' = true) : Bd (nxt ρ X) V' := fun q hq => by
  have h := List.all_eq_true.1 hw q hq
  split at h
  · rename_i w hf
    rw [nxt_ev hb hx hv (q.1, w) (fdS_some hf)]
    exact Nat.lt_of_lt_of_le (evW_tot ρ w) (Nat.pow_le_pow_right (by decide) (Nat.le_of_ble_eq_true h))
  · cases h
/-- What words come to is no wider than it should be: by their width, or by what they come to. -/
def bdB (ρ : Nat → Nat) (X : Sg) (V : Vs) : Bool := V.all fun q => match fdS X q.1 with
  | some w => Bool.rec (motive := fun _ => Bool) (Nat.blt (nw ρ w) (2 ^ q.2)) true (Nat.ble (totW w) q.2)
  | none => false
theorem nxt_bdB {ρ : Nat → Nat} {V V' : Vs} (hb : Bd ρ V) {X : Sg} (hx : exK X X = true) (hv : vsB V X = true) (hw : bdB ρ X V' = true) : Bd (nxt ρ X) V' := fun q hq => by
  have h := List.all_eq_true.1 hw q hq
  split at h
  · rename_i w hf
    cases hc : Nat.ble (totW w) q.2
    · rw [hc] at h
      show (match fdS X q.1 with | some w => nw ρ w | none => 0) < _
      rw [hf]
      exact Nat.le_of_ble_eq_true h
    · rw [nxt_ev hb hx hv (q.1, w) (fdS_some hf)]
      exact Nat.lt_of_lt_of_le (evW_tot ρ w) (Nat.pow_le_pow_right (by decide) (Nat.le_of_ble_eq_true hc))
  · cases h
theorem valS_bd {ρ : Nat → Nat} {X : Sg} {V : Vs} (hw : wdB X V = true) : Bd (valS ρ X) V := fun q hq => by
  have h := List.all_eq_true.1 hw q hq
  split at h
  · rename_i w hf
    show (match fdS X q.1 with | some w => evW ρ w | none => 0) < _
    rw [hf]
    exact Nat.lt_of_lt_of_le (evW_tot ρ w) (Nat.pow_le_pow_right (by decide) (Nat.le_of_ble_eq_true h))
  · cases h
def idX (V : Vs) : Sg := V.map fun p => (p.1, [.v p.1 0 p.2])
theorem idX_ev {ρ : Nat → Nat} {V : Vs} (hb : Bd ρ V) : ∀ p ∈ idX V, ρ p.1 = evW ρ p.2 := fun p hp => by
  obtain ⟨q, hq, rfl⟩ := List.mem_map.1 hp
  have := hb q hq
  simp only [evW, Seg.val, Seg.w]
  rw [Nat.pow_zero, Nat.div_one, Nat.mod_eq_of_lt this]
  omega
def okB (G : List Asm) (ρ : Nat → Nat) : Bool := G.all fun a => Bool.rec (motive := fun _ => Bool) (!(bif a.c.beq 0 then (evW ρ a.x).beq (evW ρ a.y) else (evW ρ a.x).blt (evW ρ a.y))) (bif a.c.beq 0 then (evW ρ a.x).beq (evW ρ a.y) else (evW ρ a.x).blt (evW ρ a.y)) a.b
theorem okB_true {G : List Asm} {ρ : Nat → Nat} (h : okB G ρ = true) : ∀ a ∈ G, a.ok ρ := fun a ha => by
  have h := List.all_eq_true.1 h a ha
  unfold Asm.ok
  cases hb : a.b
  · rw [hb] at h
    simpa using h
  · rw [hb] at h
    exact h
theorem lk_of {b : Bool} {S : TBs} {V : Vs} (h : lookP b S (idX V) = tt) {ρ : Nat → Nat} (hb : Bd ρ V) : Lk b (tbH S ρ) := fun Y hY => lookP_call h (idX_ev hb) hY
/-- A run, what becomes of words. -/
theorem wy_step {G : List Asm} {S S' : TBs} {X : Sg} {V V' : Vs} (hr : runP G S S' X = tt) (hl : lookP false S (idX V) = tt) (hc : (exK X X && vsB V X) = true) {ρ : Nat → Nat} (hb : Bd ρ V) (hg : okB G ρ = true) (hw : bdB ρ X V' = true) {E : Heap} {r : Nat} (k : Bd (nxt ρ X) V' → Wy (tbH S' (nxt ρ X)) E r) : Wy (tbH S ρ) E (r + 1) := by
  simp only [Bool.and_eq_true] at hc
  obtain ⟨h1, h2⟩ := hc
  exact wy_cons ⟨_, _, rfl⟩ (lk_of hl hb) (fun Y hY => runP_call hr (okB_true hg) (nxt_ev hb h1 h2) hY) (k (nxt_bdB hb h1 h2 hw))
/-- The last run. -/
theorem wy_stop {G : List Asm} {S S' : TBs} {X : Sg} {V V' : Vs} (hr : runP G S S' X = tt) (hl : lookP false S (idX V) = tt) (hc : (exK X X && vsB V X) = true) (hl' : lookP true S' (idX V') = tt) {ρ ρ' : Nat → Nat} (hb : Bd ρ V) (hg : okB G ρ = true) (hb' : Bd ρ' V') (he : ∀ p ∈ X, ρ' p.1 = nxt ρ X p.1) : Wy (tbH S ρ) (tbH S' ρ') 1 := by
  simp only [Bool.and_eq_true] at hc
  obtain ⟨h1, h2⟩ := hc
  exact wy_cons ⟨_, _, rfl⟩ (lk_of hl hb) (fun Y hY => runP_call hr (okB_true hg) (fun p hp => (he p hp).trans (nxt_ev hb h1 h2 p hp)) hY) (wy_last ⟨_, _, rfl⟩ (lk_of hl' hb'))
theorem valS_agree {ρ ρ' : Nat → Nat} {X : Sg} (h : ∀ p ∈ X, evW ρ p.2 = evW ρ' p.2) : valS ρ X = valS ρ' X := by
  funext i
  unfold valS
  cases hf : fdS X i with
  | none => rfl
  | some w => exact h (i, w) (fdS_some hf)
/-- A byte of a word. -/
def by1 (v o : Nat) : Nat := evW (rl [v]) [.v 0 o 8]
theorem by1_lt (v o : Nat) : by1 v o < 2 ^ 8 := evW_tot _ _
theorem lt_of {a b : Nat} (h : Nat.blt a b = true) : a < b := Nat.le_of_ble_eq_true h
/-! Two lists that tell alike memory -/
def ex1 (n : Nat) : Nat → Value → List (Nat × Value) := Nat.rec (motive := fun _ => Nat → Value → List (Nat × Value)) (fun _ _ => []) (fun _ ih s v => (s, v) :: ih (Nat.succ s) v) n
def rowV (ρ : Nat → Nat) : List (Nat × Nat × SV) → List (Nat × Value)
  | [] => []
  | p :: l => ex1 p.2.1 p.1 (p.2.2.inst ρ) ++ rowV ρ l
def lk2 (l : List (Nat × Value)) (i : Nat) (d : Option Value) : Option Value := l.foldl (fun a p => if i = p.1 then some p.2 else a) d
theorem pt1_lk (ρ : Nat → Nat) (i : Nat) : ∀ (n s : Nat) (v : SV) (t : Tr SV), ((pt1 n s v t).get i).map (SV.inst ρ) = lk2 (ex1 n s (v.inst ρ)) i ((t.get i).map (SV.inst ρ)) := by
  intro n
  induction n with
  | zero => intro s v t; rfl
  | succ n ih =>
    intro s v t
    show ((pt1 n (s + 1) v (t.put s (some v))).get i).map (SV.inst ρ) = lk2 (ex1 n (s + 1) (v.inst ρ)) i (if i = s then some (v.inst ρ) else (t.get i).map (SV.inst ρ))
    rw [ih, Tr.get_put]
    split <;> rfl
theorem pt_lk (ρ : Nat → Nat) (i : Nat) : ∀ (l : List (Nat × Nat × SV)) (t : Tr SV), ((pt l t).get i).map (SV.inst ρ) = lk2 (rowV ρ l) i ((t.get i).map (SV.inst ρ)) := by
  intro l
  induction l with
  | nil => intro t; rfl
  | cons p l ih =>
    intro t
    show ((pt l (pt1 p.2.1 p.1 p.2.2 t)).get i).map (SV.inst ρ) = lk2 (ex1 p.2.1 p.1 (p.2.2.inst ρ) ++ rowV ρ l) i ((t.get i).map (SV.inst ρ))
    rw [ih, pt1_lk]
    unfold lk2
    rw [List.foldl_append]
inductive BV where
  | l (e : TypeId) (cs : List Value)
  | z (e : TypeId) (zs : List (Nat × SV)) (r : List (Nat × Value))
def bv (ρ : Nat → Nat) : TB → BV
  | .l e cs => .l e (cs.map (SV.inst ρ))
  | .m e cs => .l e (cs.map (SV.inst ρ))
  | .z e zs l => .z e zs (rowV ρ l)
theorem z_ob (ρ : Nat → Nat) {e : TypeId} {zs : List (Nat × SV)} {l l' : List (Nat × Nat × SV)} (h : rowV ρ l = rowV ρ l') : (TB.z e zs l).ob ρ = (TB.z e zs l').ob ρ := by
  have hc : (TB.z e zs l).cells.map (SV.inst ρ) = (TB.z e zs l').cells.map (SV.inst ρ) := by
    apply List.ext_getElem?
    intro i
    show (((baseL zs).mapIdx fun i d => ((pt l .lf).get i).getD d).map (SV.inst ρ))[i]? = (((baseL zs).mapIdx fun i d => ((pt l' .lf).get i).getD d).map (SV.inst ρ))[i]?
    have h1 := pt_lk ρ i l .lf
    have h2 := pt_lk ρ i l' .lf
    rw [h] at h1
    rw [← h2] at h1
    simp only [List.getElem?_map, List.getElem?_mapIdx]
    cases (baseL zs)[i]? with
    | none => rfl
    | some d =>
      simp only [Option.map_some, Option.some.injEq]
      cases ha : (pt l .lf).get i <;> cases hb : (pt l' .lf).get i <;> rw [ha, hb] at h1 <;> simp at h1 ⊢
      exact h1
  unfold TB.ob
  rw [hc]
  rfl
theorem bv_ob {ρ : Nat → Nat} {a b : TB} (h : bv ρ a = bv ρ b) : a.ob ρ = b.ob ρ := by
  cases a <;> cases b <;> simp only [bv, BV.l.injEq, BV.z.injEq, reduceCtorEq] at h
  all_goals first
    | (obtain ⟨rfl, rfl, h⟩ := h; exact z_ob ρ h)
    | (obtain ⟨rfl, h⟩ := h; unfold TB.ob; simp only [TB.cells, TB.e]; rw [h])
theorem tbH_same {S S' : TBs} {ρ : Nat → Nat} (h : S.map (Option.map (bv ρ)) = S'.map (Option.map (bv ρ))) : tbH S ρ = tbH S' ρ := by
  have h1 : obAt ρ S = obAt ρ S' := by
    funext b
    have := congrArg (fun l : List (Option BV) => l[b]?) h
    simp only [List.getElem?_map] at this
    unfold obAt
    cases h1 : S[b]? with
    | none => cases h2 : S'[b]? with
      | none => rfl
      | some y => rw [h1, h2] at this; cases this
    | some x => cases h2 : S'[b]? with
      | none => rw [h1, h2] at this; cases this
      | some y =>
        rw [h1, h2] at this
        simp only [Option.map_some, Option.some.injEq] at this
        cases x <;> cases y <;> simp only [Option.map_some, Option.map_none, reduceCtorEq, Option.some.injEq] at this
        · rfl
        · show some _ = some _
          rw [bv_ob this]
  have h2 : S.length = S'.length := by simpa using congrArg List.length h
  unfold tbH
  rw [h1, h2]
theorem wy_same {S S' : TBs} {V V' : Vs} {ρ : Nat → Nat} (hb : Bd ρ V) (hv : (V'.all fun p => inV V p.1 p.2) = true) (h : S.map (Option.map (bv ρ)) = S'.map (Option.map (bv ρ))) {E : Heap} {r : Nat} (k : Bd ρ V' → Wy (tbH S' ρ) E r) : Wy (tbH S ρ) E r := by
  rw [tbH_same h]
  exact k fun p hp => inV_true hb (List.all_eq_true.1 hv p hp)
end
end Tp
end Go.Proofs.YthmcpmdohmfeiaaGreatDoor
