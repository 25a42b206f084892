/- A region that draws its order: the operations that may write, the loads, and all of it. -/
import Derived.Test.YthmcpmdohmfeiaaGreatDoorEvN
namespace Go.Ev
open Go
set_option linter.unusedVariables false
set_option linter.unusedSimpArgs false
section
variable {P : Program} {T : Tab} {callf : FuncId → Array Value → Heap → Option (Value × Heap)} {n : Nat} {ops : Array Oper} {S : Nat → St} {V : Nat → Value}
  {m0 : Map} {a0 : Act} {w0 : World} {L : Array Bool} {τ : Nat} {m : Map} {a : Act} {w : World}
/-- An operation that may write. -/
theorem Inv.act_step [Bs] (hC : Canon P T callf n ops S V) (hD : DrawOk T ops) (hd0 : ∀ b K, m0 b = some K → b < (S 0).H.n) {j : Nat} (h : Inv P T n ops S V m0 a0 w0 L j m a w) {oj : Oper} (hj : ops[j]? = some oj) (hun : L.getD j false = false)
    (hready : ∀ e ∈ oj.after, binds e = true → L.getD e.on false = true) (ha : ActAt T ops j) {v' : Value} {w' : World} {m' : Map}
    (hv : VR m' (V j) v') (hr : Rep P m' (S (j + 1)).H w') (hf : Fr (cut m (S j).H.n) (S j).H w m' (S (j + 1)).H w') :
    Inv P T n ops S V m0 a0 w0 (L.setIfInBounds j true) (j + 1) (fun b => if b < (S (j + 1)).H.n then m' b else m b) (a.put oj.dst v') w' := by
  have hjlt : j < ops.size := (Array.getElem?_eq_some_iff.1 hj).1
  have hjl : j < L.size := by rw [h.sizeL]; exact hjlt
  have h0j : (S 0).H.n ≤ (S j).H.n := hC.monoLe j 0 (by omega) (by omega)
  have hjj : (S j).H.n ≤ (S (j + 1)).H.n := hC.monoLe (j + 1) j (by omega) (by omega)
  generalize hmm : (fun b => if b < (S (j + 1)).H.n then m' b else m b : Map) = mm
  have mlt : ∀ b, b < (S (j + 1)).H.n → mm b = m' b := fun b hb => by rw [← hmm]; simp only [if_pos hb]
  have mge : ∀ b, (S (j + 1)).H.n ≤ b → mm b = m b := fun b hb => by rw [← hmm]; simp only [if_neg (Nat.not_lt.2 hb)]
  -- blocks of a listed operation are not j's
  have hnoj : ∀ b K, m b = some K → (S j).H.n ≤ b → (S (j + 1)).H.n ≤ b := by
    intro b K hb hge
    obtain ⟨i, h1, h2, h3, h4, h5⟩ := h.dom' hC hd0 hb hge
    have hne : i ≠ j := fun e => by subst e; rw [hun] at h3; cases h3
    have := hC.monoLe i (j + 1) (by omega) (by omega)
    omega
  have hmle : m.le mm := by
    intro b K hb
    rcases Nat.lt_or_ge b (S j).H.n with h1 | h1
    · rw [mlt b (by omega)]; exact hf.le _ _ (cut_mk h1 hb)
    · rw [mge b (hnoj b K hb h1)]; exact hb
  have hm'cut : m'.le (cut mm (S (j + 1)).H.n) := fun b K hb => by
    have h1 := hr.dom b K hb
    exact cut_mk h1 (by rw [mlt b h1]; exact hb)
  have hcutb : ∀ i, (cut m (bd S j i)).le (cut mm (bd S (j + 1) i)) := fun i => cut_mono hmle (by unfold bd; omega)
  obtain ⟨t1, t2⟩ := h.tm_step hC hD hj hun (m' := mm) (τ' := j + 1) hcutb (hv.mono (Map.le_trans hm'cut (cut_mono (Map.le_refl _) (by unfold bd; omega))))
  have hcurj : ∀ b ob, b < (S j).H.n → (S j).H.get b = some ob → Cur S ops.size j b ob := fun b ob h1 h2 => .inl ⟨h1, h2⟩
  -- what j's run owns
  have hown : ∀ c, owned (cut m (S j).H.n) (S j).H c → owned m0 (S 0).H c ∨ w0.heap.size ≤ c := by
    rintro c ⟨b0, K0, g1, ⟨ob, g2, g3⟩, rfl⟩
    obtain ⟨g4, g5⟩ := cut_some g1
    rcases h.live b0 K0 ob g5 (hcurj b0 ob g4 g2) with ⟨k1, k2⟩ | ⟨k1, k2⟩
    · have h0 := hd0 _ _ k1
      exact .inl ⟨b0, K0, k1, h.wr0 b0 h0 ⟨ob, g2, g3⟩, rfl⟩
    · exact k2
  -- blocks beyond j's are left alone
  have hbeyond : ∀ b K ob, m b = some K → (S (j + 1)).H.n ≤ b → Cur S ops.size j b ob → K.c < w.heap.size → w'.heap[K.c]? = w.heap[K.c]? := by
    intro b K ob hb hge hcur hlt
    refine hf.keep K.c hlt ?_
    rintro ⟨b0, K0, g1, ⟨o0, g2, g3⟩, g4⟩
    obtain ⟨g5, g6⟩ := cut_some g1
    exact h.inj b0 b K0 K o0 ob g6 hb (by omega) (hcurj _ _ g5 g2) g3 hcur g4
  have hCurUp : ∀ b ob, (S (j + 1)).H.n ≤ b → Cur S ops.size (j + 1) b ob → Cur S ops.size j b ob := by
    intro b ob hb hc
    rcases hc with ⟨h1, _⟩ | ⟨h1, i, h2, h3⟩
    · omega
    · exact .inr ⟨by omega, i, by omega, h3⟩
  have hltc : ∀ b K ob, m b = some K → (S (j + 1)).H.n ≤ b → Cur S ops.size j b ob → K.c < w.heap.size := by
    intro b K ob hb hge hc
    rcases hc with ⟨h1, _⟩ | ⟨h1, i, g1, g2, g3, g4, g5⟩
    · omega
    · obtain ⟨i', k1, k2, k3, k4, k5⟩ := h.dom' hC hd0 hb h1
      have := maker_eq hC g2 k2 g3 g4 k4 k5
      subst this
      exact (h.blk2 i b K ob g1 g2 k3 hb g3 g4 g5).lt
  have hCurLow : ∀ b ob, b < (S (j + 1)).H.n → Cur S ops.size (j + 1) b ob → (S (j + 1)).H.get b = some ob := by
    intro b ob hb hc
    rcases hc with ⟨_, h2⟩ | ⟨h1, _⟩
    · exact h2
    · omega
  exact {
    closed := h.closed_set hj hready
    sizeL := by simp [h.sizeL]
    front := by
      refine ⟨by omega, fun q hq hqa => ?_, fun q hq hqa => ?_⟩
      · rw [set_getD]
        split
        · rfl
        · rename_i hne
          exact h.front.2.1 q (by
            rcases Nat.lt_or_ge q j with h5 | h5
            · exact h5
            · exact absurd ⟨by omega, hjl⟩ hne) hqa
      · rw [set_getD, if_neg (fun (e : q = j ∧ j < L.size) => by omega)]
        exact h.front.2.2 q (by omega) hqa
    le := Map.le_trans h.le hmle
    dom := fun b K hb => by
      rcases Nat.lt_or_ge b (S (j + 1)).H.n with h1 | h1
      · rw [mlt b h1] at hb
        rcases hf.dom b K hb with h2 | h2
        · obtain ⟨h3, h4⟩ := cut_some h2
          rcases h.dom b K h4 with h5 | ⟨i, h5, h6, h7⟩
          · exact .inl h5
          · exact .inr ⟨i, h5, set_true h6, h7⟩
        · exact .inr ⟨j, hjlt, by rw [set_getD, if_pos ⟨rfl, hjl⟩], h2, h1⟩
      · rw [mge b h1] at hb
        rcases h.dom b K hb with h5 | ⟨i, h5, h6, h7⟩
        · exact .inl h5
        · exact .inr ⟨i, h5, set_true h6, h7⟩
    size := by rw [← h.size]; cases oj.dst <;> simp [Act.put]
    defers := by rw [← h.defers]; cases oj.dst <;> rfl
    tmv := t1
    tm0 := t2
    blk := fun b K ob hb hlt ho => by
      rw [mlt b hlt] at hb
      exact (hr.blk b K ob hb ho).mono hm'cut rfl
    blk2 := fun i b K ob h1 h2 h3 h4 h5 h6 h7 => by
      have hge : (S (j + 1)).H.n ≤ b := Nat.le_trans (hC.monoLe i (j + 1) h1 (by omega)) h5
      rw [mge b hge] at h4
      rcases set_or h3 with rfl | h3
      · omega
      · have hb2 := h.blk2 i b K ob (by omega) h2 h3 h4 h5 h6 h7
        exact hb2.mono (cut_mono hmle (Nat.le_refl _)) (hbeyond b K ob h4 hge (.inr ⟨by omega, i, by omega, h2, h5, h6, h7⟩) hb2.lt)
    late := fun i h1 h2 b h3 h4 => by
      have hne : i ≠ j := fun e => by subst e; rw [set_getD, if_pos ⟨rfl, hjl⟩] at h2; cases h2
      have hlt : i < j := by omega
      have hub : b < (S j).H.n := Nat.lt_of_lt_of_le h4 (hC.monoLe j (i + 1) (by omega) (by omega))
      rw [← h.late i hlt (set_false h2) b h3 h4]
      refine hf.akeep b hub ?_
      cases hm : cut m (S j).H.n b with
      | none => rfl
      | some K =>
        obtain ⟨_, g2⟩ := cut_some hm
        rcases h.dom b K g2 with g3 | ⟨i', g3, g4, g5, g6⟩
        · have := hd0 _ _ g3
          have := hC.monoLe i 0 (by omega) (by omega)
          omega
        · have := maker_eq hC g3 (by omega) g5 g6 h3 h4
          subst this
          rw [set_false h2] at g4; cases g4
    inj := fun b1 b2 K1 K2 o1 o2 h1 h2 h3 h4 h5 h6 => by
      rcases Nat.lt_or_ge b1 (S (j + 1)).H.n with q1 | q1
      · rw [mlt b1 q1] at h1
        have g1 := hCurLow b1 o1 q1 h4
        rcases Nat.lt_or_ge b2 (S (j + 1)).H.n with q2 | q2
        · rw [mlt b2 q2] at h2
          have g2 := hCurLow b2 o2 q2 h6
          exact hr.inj b1 b2 K1 K2 h1 h2 ⟨o1, g1, h5⟩ (by rw [g2]; rfl) h3
        · rw [mge b2 q2] at h2
          have hc2 := hCurUp b2 o2 q2 h6
          have hl2 := hltc b2 K2 o2 h2 q2 hc2
          rcases hf.live b1 K1 h1 (by rw [g1]; rfl) with ⟨k1, k2⟩ | ⟨k1, k2 | k2⟩
          · obtain ⟨k3, k4⟩ := cut_some k1
            obtain ⟨q, k5, k6⟩ := hf.wrb b1 k3 ⟨o1, g1, h5⟩
            exact h.inj b1 b2 K1 K2 q o2 k4 h2 h3 (hcurj _ _ k3 k5) k6 hc2
          · obtain ⟨b0, K0, k3, ⟨o0, k4, k5⟩, k6⟩ := k2
            obtain ⟨k7, k8⟩ := cut_some k3
            rw [← k6]
            exact h.inj b0 b2 K0 K2 o0 o2 k8 h2 (by omega) (hcurj _ _ k7 k4) k5 hc2
          · omega
      · rw [mge b1 q1] at h1
        have hc1 := hCurUp b1 o1 q1 h4
        have hl1 := hltc b1 K1 o1 h1 q1 hc1
        rcases Nat.lt_or_ge b2 (S (j + 1)).H.n with q2 | q2
        · rw [mlt b2 q2] at h2
          have g2 := hCurLow b2 o2 q2 h6
          rcases hf.live b2 K2 h2 (by rw [g2]; rfl) with ⟨k1, k2⟩ | ⟨k1, k2 | k2⟩
          · obtain ⟨k3, k4⟩ := cut_some k1
            obtain ⟨q, k5⟩ := Option.isSome_iff_exists.1 k2
            exact h.inj b1 b2 K1 K2 o1 q h1 k4 h3 hc1 h5 (hcurj _ _ k3 k5)
          · obtain ⟨b0, K0, k3, ⟨o0, k4, k5⟩, k6⟩ := k2
            obtain ⟨k7, k8⟩ := cut_some k3
            rw [← k6]
            exact h.inj b1 b0 K1 K0 o1 o0 h1 k8 (by omega) hc1 h5 (hcurj _ _ k7 k4)
          · omega
        · rw [mge b2 q2] at h2
          exact h.inj b1 b2 K1 K2 o1 o2 h1 h2 h3 hc1 h5 (hCurUp b2 o2 q2 h6)
    wr0 := fun b hb hw => h.wr0 b hb (hf.wrb b (by omega) hw)
    lv0 := fun b hb hw => h.lv0 b hb (hf.lv b (by omega) hw)
    os := hf.os.trans h.os, tape := hf.tape.trans h.tape, output := hf.output.trans h.output
    wsize := Nat.le_trans h.wsize hf.size
    keep := fun c hc ho => by
      rw [hf.keep c (Nat.lt_of_lt_of_le hc h.wsize) (fun hown' => by
        rcases hown c hown' with h1 | h1
        · exact ho h1
        · omega)]
      exact h.keep c hc ho
    live := fun b K ob hb hc => by
      rcases Nat.lt_or_ge b (S (j + 1)).H.n with q | q
      · rw [mlt b q] at hb
        have g := hCurLow b ob q hc
        rcases hf.live b K hb (by rw [g]; rfl) with ⟨k1, k2⟩ | ⟨k1, k2 | k2⟩
        · obtain ⟨k3, k4⟩ := cut_some k1
          obtain ⟨q', k5⟩ := Option.isSome_iff_exists.1 k2
          exact h.live b K q' k4 (hcurj _ _ k3 k5)
        · exact .inr ⟨by omega, hown _ k2⟩
        · exact .inr ⟨by omega, .inr (Nat.le_trans h.wsize k2)⟩
      · rw [mge b q] at hb
        exact h.live b K ob hb (hCurUp b ob q hc)
    akeep := fun b hb h1 => by
      rw [hf.akeep b (by omega) ?_]
      · exact h.akeep b hb h1
      · cases hm : cut m (S j).H.n b with
        | none => rfl
        | some K =>
          obtain ⟨_, g2⟩ := cut_some hm
          rcases h.dom b K g2 with g3 | ⟨i', g3, g4, g5, g6⟩
          · rw [h1] at g3; cases g3
          · have := hC.monoLe i' 0 (by omega) (by omega); omega }
end
end Go.Ev
