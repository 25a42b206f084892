/- A region that draws its order: one operation more of it. -/
import Derived.Test.YthmcpmdohmfeiaaGreatDoorEvM
namespace Go.Ev
open Go
set_option linter.unusedVariables false
set_option linter.unusedSimpArgs false
theorem set_getD (L : Array Bool) (j i : Nat) (d : Bool) : (L.setIfInBounds j true).getD i d = if i = j ∧ j < L.size then true else L.getD i d := by
  simp only [Array.getD_eq_getD_getElem?, Array.getElem?_setIfInBounds]
  by_cases e : j = i
  · subst e
    by_cases hj : j < L.size
    · simp [hj]
    · simp [hj]
  · rw [if_neg e, if_neg (fun h => e h.1.symm)]
theorem put_getD (a : Act) (dst : Option Tmp) (v : Value) (t : Tmp) (h : ∀ d, dst = some d → d < a.tmps.size) : (a.put dst v).tmps.getD t undef = if dst = some t then v else a.tmps.getD t undef := by
  cases dst with
  | none => simp [Act.put]
  | some d =>
    have hd := h d rfl
    simp only [Act.put, Array.getD_eq_getD_getElem?, Array.getElem?_setIfInBounds]
    by_cases e : d = t
    · subst e; simp [hd]
    · rw [if_neg e, if_neg (fun h => e (by cases h; rfl))]
theorem dput_lt {n : Nat} {tm tm' : Tr Value} {dst : Option Tmp} {v : Value} (h : dput n tm dst v = some tm') : ∀ d, dst = some d → d < n := by
  intro d hd
  subst hd
  unfold dput at h
  simp only at h
  cases hb : d.blt n
  · rw [hb] at h; cases h
  · simpa [Nat.blt_eq] using hb
section
variable {P : Program} {T : Tab} {callf : FuncId → Array Value → Heap → Option (Value × Heap)} {n : Nat} {ops : Array Oper} {S : Nat → St} {V : Nat → Value}
  {m0 : Map} {a0 : Act} {w0 : World} {L : Array Bool} {τ : Nat} {m : Map} {a : Act} {w : World}
theorem Inv.closed_set (h : Inv P T n ops S V m0 a0 w0 L τ m a w) {j : Nat} {oj : Oper} (hj : ops[j]? = some oj) (hready : ∀ e ∈ oj.after, binds e = true → L.getD e.on false = true) : Closed ops (L.setIfInBounds j true) := by
  intro i oi hi hl e he hb
  rw [set_getD] at hl ⊢
  split
  · rfl
  · split at hl
    · rename_i hij; obtain ⟨rfl, _⟩ := hij; rw [hj] at hi; cases hi; exact hready e he hb
    · exact h.closed i oi hi hl e he hb
theorem Inv.tm_step (hC : Canon P T callf n ops S V) (hD : DrawOk T ops) (h : Inv P T n ops S V m0 a0 w0 L τ m a w) {j : Nat} {oj : Oper} (hj : ops[j]? = some oj) (hun : L.getD j false = false) {m' : Map} {τ' : Nat} {v' : Value}
    (hcut : ∀ i, (cut m (bd S τ i)).le (cut m' (bd S τ' i))) (hv : VR (cut m' (bd S τ' j)) (V j) v') :
    (∀ i oi d, ops[i]? = some oi → (L.setIfInBounds j true).getD i false = true → oi.dst = some d → VR (cut m' (bd S τ' i)) (V i) ((a.put oj.dst v').tmps.getD d undef)) ∧
    (∀ t, (∀ i oi, ops[i]? = some oi → (L.setIfInBounds j true).getD i false = true → oi.dst ≠ some t) → VR m0 (((S 0).tm.get t).getD undef) ((a.put oj.dst v').tmps.getD t undef)) := by
  have hlt : ∀ d, oj.dst = some d → d < a.tmps.size := by rw [h.size]; exact dput_lt (hC.tm j oj hj)
  have hjl : j < L.size := by rw [h.sizeL]; exact (Array.getElem?_eq_some_iff.1 hj).1
  refine ⟨fun i oi d hi hl hd => ?_, fun t ht => ?_⟩
  · rw [put_getD _ _ _ _ hlt]
    rw [set_getD] at hl
    by_cases e : i = j
    · subst e
      rw [hj] at hi
      cases hi
      rw [if_pos hd]
      exact hv
    · rw [if_neg (fun h => e h.1)] at hl
      rw [if_neg (hD.dst i j oi oj d e hi hj hd)]
      exact (h.tmv i oi d hi hl hd).mono (hcut i)
  · have hne : oj.dst ≠ some t := ht j oj hj (by rw [set_getD, if_pos ⟨rfl, hjl⟩])
    rw [put_getD _ _ _ _ hlt, if_neg hne]
    exact h.tm0 t fun i oi hi hl => ht i oi hi (by rw [set_getD]; split; · rfl
                                                   · exact hl)
theorem Inv.front_set (h : Inv P T n ops S V m0 a0 w0 L τ m a w) {j : Nat} (hna : ¬ ActAt T ops j) : Front T ops (L.setIfInBounds j true) τ := by
  refine ⟨h.front.1, fun q hq ha => ?_, fun q hq ha => ?_⟩
  · rw [set_getD]
    split
    · rfl
    · exact h.front.2.1 q hq ha
  · rw [set_getD, if_neg (fun (e : q = j ∧ j < L.size) => hna (by rw [← e.1]; exact ha))]
    exact h.front.2.2 q hq ha
theorem set_true {L : Array Bool} {j i : Nat} (h : L.getD i false = true) : (L.setIfInBounds j true).getD i false = true := by
  rw [set_getD]; split
  · rfl
  · exact h
theorem set_false {L : Array Bool} {j i : Nat} (h : (L.setIfInBounds j true).getD i false = false) : L.getD i false = false := by
  rw [set_getD] at h; split at h
  · cases h
  · exact h
theorem set_or {L : Array Bool} {j i : Nat} (h : (L.setIfInBounds j true).getD i false = true) : i = j ∨ L.getD i false = true := by
  rw [set_getD] at h; split at h
  · rename_i e; exact .inl e.1
  · exact .inr h
/-- An operation that makes nothing. -/
theorem Inv.quiet_step (hC : Canon P T callf n ops S V) (hD : DrawOk T ops) (h : Inv P T n ops S V m0 a0 w0 L τ m a w) {j : Nat} {oj : Oper} (hj : ops[j]? = some oj) (hun : L.getD j false = false)
    (hready : ∀ e ∈ oj.after, binds e = true → L.getD e.on false = true) (hna : ¬ ActAt T ops j) (hH : (S (j + 1)).H.n = (S j).H.n) {v' : Value} (hv : VR (cut m (bd S τ j)) (V j) v') :
    Inv P T n ops S V m0 a0 w0 (L.setIfInBounds j true) τ m (a.put oj.dst v') w := by
  obtain ⟨t1, t2⟩ := h.tm_step hC hD hj hun (m' := m) (τ' := τ) (fun _ => Map.le_refl _) hv
  exact { h with
    closed := h.closed_set hj hready
    sizeL := by simp [h.sizeL]
    front := h.front_set hna
    dom := fun b K hb => by
      rcases h.dom b K hb with h1 | ⟨i, h1, h2, h3⟩
      · exact .inl h1
      · exact .inr ⟨i, h1, set_true h2, h3⟩
    size := by rw [← h.size]; cases oj.dst <;> simp [Act.put]
    defers := by rw [← h.defers]; cases oj.dst <;> rfl
    tmv := t1
    tm0 := t2
    blk2 := fun i b K ob h1 h2 h3 h4 h5 h6 h7 => by
      rcases set_or h3 with rfl | h3
      · omega
      · exact h.blk2 i b K ob h1 h2 h3 h4 h5 h6 h7
    late := fun i h1 h2 => h.late i h1 (set_false h2) }
/-- An operation that makes a block. -/
theorem Inv.make_step (hC : Canon P T callf n ops S V) (hD : DrawOk T ops) (hd0 : ∀ b K, m0 b = some K → b < (S 0).H.n) (h : Inv P T n ops S V m0 a0 w0 L τ m a w) {j : Nat} {oj : Oper} (hj : ops[j]? = some oj) (hun : L.getD j false = false)
    (hready : ∀ e ∈ oj.after, binds e = true → L.getD e.on false = true) (hna : ¬ ActAt T ops j) {ob : Ob} (hH : (S (j + 1)).H = (S j).H.push ob) {v' : Value} {cs : Array Value} {i0 : TypeInfo} (hi0 : P.info? ob.elem = some i0) (hro : ob.ro = false) (hlen : ob.cells.length ≤ cs.size)
    (hcs : ∀ (k : Nat) (x : Value), ob.cells[k]? = some x → ∃ y, cs[k]? = some y ∧ VR (cut m (bd S τ j)) x y) (hv : VR ((cut m (bd S τ j)).add (S j).H.n ⟨w.heap.size, 0, cs.size, i0.size, false⟩) (V j) v') :
    Inv P T n ops S V m0 a0 w0 (L.setIfInBounds j true) τ (m.add (S j).H.n ⟨w.heap.size, 0, cs.size, i0.size, false⟩) (a.put oj.dst v') (w.alloc (.cells cs ob.elem)) := by
  have hjlt : j < ops.size := (Array.getElem?_eq_some_iff.1 hj).1
  have hjl : j < L.size := by rw [h.sizeL]; exact hjlt
  have hn1 : (S (j + 1)).H.n = (S j).H.n + 1 := by rw [hH]; rfl
  have h0j : (S 0).H.n ≤ (S j).H.n := hC.monoLe j 0 (by omega) (by omega)
  have hnone : m (S j).H.n = none := by
    cases hm : m (S j).H.n with
    | none => rfl
    | some K =>
      rcases h.dom _ K hm with h1 | ⟨i, h1, h2, h3, h4⟩
      · have := hd0 _ _ h1; omega
      · have := maker_eq hC h1 hjlt h3 h4 (Nat.le_refl _) (by omega)
        subst this
        rw [hun] at h2; cases h2
  generalize hNL : (⟨w.heap.size, 0, cs.size, i0.size, false⟩ : Loc) = NL at hv ⊢
  have hle : m.le (m.add (S j).H.n NL) := Map.le_add hnone
  have hcase : ∀ b K, (m.add (S j).H.n NL) b = some K → (b = (S j).H.n ∧ K = NL) ∨ (b ≠ (S j).H.n ∧ m b = some K) := by
    intro b K hb
    unfold Map.add at hb
    split at hb
    · rename_i e; cases hb; exact .inl ⟨e, rfl⟩
    · rename_i e; exact .inr ⟨e, hb⟩
  have hold : ∀ c, c < w.heap.size → (w.alloc (.cells cs ob.elem)).heap[c]? = w.heap[c]? := fun c hc => Ev.alloc_old w _ c hc
  have hbd : (S j).H.n < bd S τ j := by unfold bd; omega
  have hvadd : ((cut m (bd S τ j)).add (S j).H.n NL).le (cut (m.add (S j).H.n NL) (bd S τ j)) := by
    intro b K hb
    unfold Map.add at hb
    split at hb
    · rename_i e; cases hb; subst e; exact cut_mk hbd (Map.add_self _ _ _)
    · obtain ⟨g1, g2⟩ := cut_some hb; exact cut_mk g1 (hle _ _ g2)
  obtain ⟨t1, t2⟩ := h.tm_step hC hD hj hun (m' := m.add (S j).H.n NL) (τ' := τ) (fun _ => cut_mono hle (Nat.le_refl _)) (hv.mono hvadd)
  have hob : (S (j + 1)).H.get (S j).H.n = some ob := by rw [hH, Heap.get_push, if_pos rfl]
  have hblkNew : ∀ k, bd S τ j ≤ k → BlkOk P (cut (m.add (S j).H.n NL) k) ob NL (w.alloc (.cells cs ob.elem)) := by
    intro k hk
    subst hNL
    refine .inl ⟨rfl, cs, ob.elem, (0, 0), Ev.alloc_new w _, by simpa using hlen, fun i x hx => ?_, fun _ => ⟨rfl, rfl, rfl⟩, i0, hi0, rfl⟩
    obtain ⟨y, hy, hvy⟩ := hcs i x hx
    exact ⟨y, by simpa using hy, hvy.mono (cut_mono hle hk)⟩
  have hlateJ : j < τ → (S τ).H.get (S j).H.n = some ob := fun hjt => by rw [h.late j hjt hun _ (Nat.le_refl _) (by omega)]; exact hob
  have hcurJ : ∀ o', Cur S ops.size τ (S j).H.n o' → o' = ob := by
    intro o' hc
    rcases Nat.lt_or_ge j τ with hjt | hjt
    · have hlt : (S j).H.n < (S τ).H.n := by have := hC.monoLe τ (j + 1) (by omega) h.front.1; omega
      rcases hc with ⟨_, h2⟩ | ⟨h1, _⟩
      · rw [hlateJ hjt] at h2; cases h2; rfl
      · omega
    · have hge := hC.monoLe j τ hjt (by omega)
      rcases hc with ⟨h1, _⟩ | ⟨_, i, g1, g2, g3, g4, g5⟩
      · omega
      · have := maker_eq hC g2 hjlt g3 g4 (Nat.le_refl _) (by omega)
        subst this
        rw [hob] at g5; cases g5; rfl
  have hltc : ∀ b K o', m b = some K → Cur S ops.size τ b o' → K.c < w.heap.size := by
    intro b K o' hb hc
    rcases hc with ⟨h1, h2⟩ | ⟨h1, i, g1, g2, g3, g4, g5⟩
    · exact (h.blk b K o' hb h1 h2).lt
    · obtain ⟨i', k1, k2, k3, k4, k5⟩ := h.dom' hC hd0 hb h1
      have := maker_eq hC g2 k2 g3 g4 k4 k5
      subst this
      exact (h.blk2 i b K o' g1 g2 k3 hb g3 g4 g5).lt
  have hcNL : NL.c = w.heap.size := by rw [← hNL]
  exact { h with
    closed := h.closed_set hj hready
    sizeL := by simp [h.sizeL]
    front := h.front_set hna
    le := Map.le_trans h.le hle
    dom := fun b K hb => by
      rcases hcase b K hb with ⟨rfl, rfl⟩ | ⟨_, hb⟩
      · exact .inr ⟨j, hjlt, by rw [set_getD, if_pos ⟨rfl, hjl⟩], Nat.le_refl _, by omega⟩
      · rcases h.dom b K hb with h1 | ⟨i, h1, h2, h3⟩
        · exact .inl h1
        · exact .inr ⟨i, h1, set_true h2, h3⟩
    size := by rw [← h.size]; cases oj.dst <;> simp [Act.put]
    defers := by rw [← h.defers]; cases oj.dst <;> rfl
    tmv := t1
    tm0 := t2
    blk := fun b K o' hb hlt ho => by
      rcases hcase b K hb with ⟨rfl, rfl⟩ | ⟨_, hb⟩
      · have := hcurJ o' (.inl ⟨hlt, ho⟩)
        subst this
        refine hblkNew _ ?_
        have hjt : j < τ := by
          rcases Nat.lt_or_ge j τ with h5 | h5
          · exact h5
          · have := hC.monoLe j τ h5 (by omega); omega
        have := hC.monoLe τ (j + 1) (by omega) h.front.1
        unfold bd; omega
      · have := h.blk b K o' hb hlt ho
        exact this.mono (cut_mono hle (Nat.le_refl _)) (hold _ this.lt)
    blk2 := fun i b K o' h1 h2 h3 h4 h5 h6 h7 => by
      rcases hcase b K h4 with ⟨rfl, rfl⟩ | ⟨hbn, hb⟩
      · have hij := maker_eq hC h2 hjlt h5 h6 (Nat.le_refl _) (by omega)
        subst hij
        rw [hob] at h7
        cases h7
        refine hblkNew _ ?_
        have := hC.monoLe (i + 1) τ (by omega) (by omega)
        unfold bd; omega
      · rcases set_or h3 with rfl | h3
        · exact absurd (by omega : b = (S i).H.n) hbn
        · have := h.blk2 i b K o' h1 h2 h3 hb h5 h6 h7
          exact this.mono (cut_mono hle (Nat.le_refl _)) (hold _ this.lt)
    late := fun i h1 h2 => h.late i h1 (set_false h2)
    inj := fun b1 b2 K1 K2 o1 o2 h1 h2 h3 h4 h5 h6 => by
      rcases hcase b1 K1 h1 with ⟨e1, e1'⟩ | ⟨hn1', g1⟩
      · rcases hcase b2 K2 h2 with ⟨e2, e2'⟩ | ⟨hn2', g2⟩
        · exact absurd (e1.trans e2.symm) h3
        · have := hltc _ _ _ g2 h6; rw [e1']; omega
      · rcases hcase b2 K2 h2 with ⟨e2, e2'⟩ | ⟨hn2', g2⟩
        · have := hltc _ _ _ g1 h4; rw [e2']; omega
        · exact h.inj b1 b2 K1 K2 o1 o2 g1 g2 h3 h4 h5 h6
    os := h.os, tape := h.tape, output := h.output
    wsize := Nat.le_trans h.wsize (by simp)
    keep := fun c hc ho => by rw [hold c (Nat.lt_of_lt_of_le hc h.wsize)]; exact h.keep c hc ho
    live := fun b K o' h1 h2 => by
      rcases hcase b K h1 with ⟨rfl, rfl⟩ | ⟨hbn, hb⟩
      · exact .inr ⟨h0j, .inr (by rw [hcNL]; exact h.wsize)⟩
      · exact h.live b K o' hb h2 }
end
end Go.Ev
