/- A region that draws its order: in whatever order, it comes to what it comes to in the text's own. -/
import Derived.Test.YthmcpmdohmfeiaaGreatDoorEvL
namespace Go.Ev
open Go
set_option linter.unusedVariables false
set_option linter.unusedSimpArgs false
def cut (m : Map) (k : Nat) : Map := fun b => if b < k then m b else none
theorem cut_some {m : Map} {k b : Nat} {L : Loc} (h : cut m k b = some L) : b < k ∧ m b = some L := by
  unfold cut at h
  split at h
  · exact ⟨‹_›, h⟩
  · cases h
theorem cut_mk {m : Map} {k b : Nat} {L : Loc} (hb : b < k) (h : m b = some L) : cut m k b = some L := by
  unfold cut; rw [if_pos hb]; exact h
theorem cut_le (m : Map) (k : Nat) : (cut m k).le m := fun b L h => (cut_some h).2
theorem cut_mono {m m' : Map} {k k' : Nat} (hm : m.le m') (hk : k ≤ k') : (cut m k).le (cut m' k') := fun b L h => by
  obtain ⟨h1, h2⟩ := cut_some h
  exact cut_mk (by omega) (hm _ _ h2)
theorem first_of (p : Nat → Prop) : ∀ (y x : Nat), x ≤ y → (∀ k, x ≤ k → k < y → ¬ p k) ∨ ∃ q, x ≤ q ∧ q < y ∧ p q ∧ ∀ k, x ≤ k → k < q → ¬ p k := by
  intro y
  induction y with
  | zero => intro x h; exact .inl fun k _ hk => by omega
  | succ y ih =>
    intro x h
    by_cases hxy : x ≤ y
    · rcases ih x hxy with h1 | ⟨q, h1, h2, h3⟩
      · by_cases hp : p y
        · exact .inr ⟨y, hxy, by omega, hp, h1⟩
        · refine .inl fun k hk1 hk2 => ?_
          by_cases e : k = y
          · subst e; exact hp
          · exact h1 k hk1 (by omega)
      · exact .inr ⟨q, h1, by omega, h3⟩
    · exact .inl fun k _ hk => by omega
theorem last_of (p : Nat → Prop) : ∀ (y x : Nat), x ≤ y → (∀ k, x ≤ k → k < y → ¬ p k) ∨ ∃ q, x ≤ q ∧ q < y ∧ p q ∧ ∀ k, q < k → k < y → ¬ p k := by
  intro y
  induction y with
  | zero => intro x h; exact .inl fun k _ hk => by omega
  | succ y ih =>
    intro x h
    by_cases hxy : x ≤ y
    · by_cases hp : p y
      · exact .inr ⟨y, hxy, by omega, hp, fun k h1 h2 => by omega⟩
      · rcases ih x hxy with h1 | ⟨q, h1, h2, h3, h4⟩
        · refine .inl fun k hk1 hk2 => ?_
          by_cases e : k = y
          · subst e; exact hp
          · exact h1 k hk1 (by omega)
        · refine .inr ⟨q, h1, by omega, h3, fun k hk1 hk2 => ?_⟩
          by_cases e : k = y
          · subst e; exact hp
          · exact h4 k hk1 (by omega)
    · exact .inl fun k _ hk => by omega
section
variable (P : Program) (T : Tab) (callf : FuncId → Array Value → Heap → Option (Value × Heap)) (n : Nat) (ops : Array Oper)
def ActAt (k : Nat) : Prop := ∃ o, ops[k]? = some o ∧ cls T o.op = .act
structure Canon (S : Nat → St) (V : Nat → Value) : Prop where
  out : ∀ k o, ops[k]? = some o → Outc P T callf ops o (S k) (V k) (S (k + 1)).H
  tm : ∀ k o, ops[k]? = some o → dput n (S k).tm o.dst (V k) = some (S (k + 1)).tm
  mono : ∀ k, k < ops.size → (S k).H.n ≤ (S (k + 1)).H.n
  still : ∀ k, k < ops.size → ¬ ActAt T ops k → ∀ b, b < (S k).H.n → (S (k + 1)).H.get b = (S k).H.get b
  gn : ∀ k, k ≤ ops.size → HWf (S k).H
  steady : ∀ p ∈ loose T ops, ∃ s o, S p.1 = s ∧ ops[p.1]? = some o ∧ (awanted ops s.tm o = true → ∀ x u v, lookArg o.op = some x → aeval s.tm x = some u → alook T o.op u s.H = some v →
    alook T o.op u (S p.2).H = some v ∧ alook T o.op u (S (p.2 + 1)).H = some v)
variable {P T callf n ops} {S : Nat → St} {V : Nat → Value}
theorem Canon.monoLe (h : Canon P T callf n ops S V) : ∀ (j i : Nat), i ≤ j → j ≤ ops.size → (S i).H.n ≤ (S j).H.n := by
  intro j
  induction j with
  | zero => intro i hi _; rw [show i = 0 by omega]; exact Nat.le_refl _
  | succ j ih =>
    intro i hi hj
    by_cases e : i = j + 1
    · rw [e]; exact Nat.le_refl _
    · exact Nat.le_trans (ih i (by omega) (by omega)) (h.mono j (by omega))
theorem Canon.stills (h : Canon P T callf n ops S V) : ∀ (j i : Nat), i ≤ j → j ≤ ops.size → (∀ k, i ≤ k → k < j → ¬ ActAt T ops k) → ∀ b, b < (S i).H.n → (S j).H.get b = (S i).H.get b := by
  intro j
  induction j with
  | zero => intro i hi _ _ b _; rw [show i = 0 by omega]
  | succ j ih =>
    intro i hi hj hk b hb
    by_cases e : i = j + 1
    · rw [e]
    · rw [h.still j (by omega) (hk j (by omega) (by omega)) b (Nat.lt_of_lt_of_le hb (h.monoLe j i (by omega) (by omega)))]
      exact ih i (by omega) (by omega) (fun k h1 h2 => hk k h1 (by omega)) b hb
theorem Canon.tms (h : Canon P T callf n ops S V) (hD : DrawOk T ops) (t : Tmp) : ∀ (j : Nat), j ≤ ops.size →
    (∀ i oi, i < j → ops[i]? = some oi → oi.dst = some t → (S j).tm.get t = some (V i)) ∧ ((∀ i oi, i < j → ops[i]? = some oi → oi.dst ≠ some t) → (S j).tm.get t = (S 0).tm.get t) := by
  intro j
  induction j with
  | zero => exact fun _ => ⟨fun i _ hi => by omega, fun _ => rfl⟩
  | succ j ih =>
    intro hj
    obtain ⟨h1, h2⟩ := ih (by omega)
    obtain ⟨o, ho⟩ : ∃ o, ops[j]? = some o := ⟨ops[j], Array.getElem?_eq_getElem (by omega)⟩
    have ht := h.tm j o ho
    have hget : ∀ x, o.dst ≠ some x → (S (j + 1)).tm.get x = (S j).tm.get x := by
      intro x hx
      unfold dput at ht
      cases hd : o.dst with
      | none => rw [hd] at ht; injection ht with ht; rw [← ht]
      | some d =>
        rw [hd] at ht hx
        simp only at ht
        cases hb : d.blt n <;> rw [hb] at ht <;> simp only [cond_false, cond_true] at ht
        · cases ht
        · injection ht with ht
          rw [← ht, Tr.get_put, if_neg (fun e => hx (by rw [e]))]
    have hget2 : ∀ x, o.dst = some x → (S (j + 1)).tm.get x = some (V j) := by
      intro x hx
      unfold dput at ht
      rw [hx] at ht
      simp only at ht
      cases hb : x.blt n <;> rw [hb] at ht <;> simp only [cond_false, cond_true] at ht
      · cases ht
      · injection ht with ht
        rw [← ht, Tr.get_put, if_pos rfl]
    refine ⟨fun i oi hi hoi hd => ?_, fun hno => ?_⟩
    · by_cases e : i = j
      · subst e
        rw [ho] at hoi
        cases hoi
        exact hget2 t hd
      · rw [hget t (hD.dst i j oi o t e hoi ho hd)]
        exact h1 i oi (by omega) hoi hd
    · rw [hget t (hno j o (by omega) ho)]
      exact h2 fun i oi hi hoi => hno i oi (by omega) hoi
theorem actAt_dec (k : Nat) (o : Oper) (ho : ops[k]? = some o) : ActAt T ops k ↔ cls T o.op = .act := by
  constructor
  · rintro ⟨o', h1, h2⟩; rw [ho] at h1; cases h1; exact h2
  · exact fun h => ⟨o, ho, h⟩
/-- All acts ahead of a place are listed, none from it on. -/
def Front (T : Tab) (ops : Array Oper) (L : Array Bool) (τ : Nat) : Prop :=
  τ ≤ ops.size ∧ (∀ q, q < τ → ActAt T ops q → L.getD q false = true) ∧ (∀ q, τ ≤ q → ActAt T ops q → L.getD q false = false)
def bd (S : Nat → St) (τ i : Nat) : Nat := max (S (i + 1)).H.n (S τ).H.n
/-- What a block holds now. -/
def Cur (S : Nat → St) (N τ b : Nat) (ob : Ob) : Prop :=
  (b < (S τ).H.n ∧ (S τ).H.get b = some ob) ∨ ((S τ).H.n ≤ b ∧ ∃ i, τ ≤ i ∧ i < N ∧ (S i).H.n ≤ b ∧ b < (S (i + 1)).H.n ∧ (S (i + 1)).H.get b = some ob)
structure Inv (P : Program) (T : Tab) (n : Nat) (ops : Array Oper) (S : Nat → St) (V : Nat → Value) (m0 : Map) (a0 : Act) (w0 : World) (L : Array Bool) (τ : Nat) (m : Map) (a : Act) (w : World) : Prop where
  closed : Closed ops L
  sizeL : L.size = ops.size
  front : Front T ops L τ
  le : m0.le m
  dom : ∀ b K, m b = some K → m0 b = some K ∨ ∃ i, i < ops.size ∧ L.getD i false = true ∧ (S i).H.n ≤ b ∧ b < (S (i + 1)).H.n
  size : a.tmps.size = n
  defers : a.defers = a0.defers
  tmv : ∀ i oi d, ops[i]? = some oi → L.getD i false = true → oi.dst = some d → VR (cut m (bd S τ i)) (V i) (a.tmps.getD d undef)
  tm0 : ∀ t, (∀ i oi, ops[i]? = some oi → L.getD i false = true → oi.dst ≠ some t) → VR m0 (((S 0).tm.get t).getD undef) (a.tmps.getD t undef)
  blk : ∀ b K ob, m b = some K → b < (S τ).H.n → (S τ).H.get b = some ob → BlkOk P (cut m (S τ).H.n) ob K w
  blk2 : ∀ i b K ob, τ ≤ i → i < ops.size → L.getD i false = true → m b = some K → (S i).H.n ≤ b → b < (S (i + 1)).H.n → (S (i + 1)).H.get b = some ob → BlkOk P (cut m (S (i + 1)).H.n) ob K w
  late : ∀ i, i < τ → L.getD i false = false → ∀ b, (S i).H.n ≤ b → b < (S (i + 1)).H.n → (S τ).H.get b = (S (i + 1)).H.get b
  inj : ∀ b1 b2 K1 K2 o1 o2, m b1 = some K1 → m b2 = some K2 → b1 ≠ b2 → Cur S ops.size τ b1 o1 → o1.ro = false → Cur S ops.size τ b2 o2 → K1.c ≠ K2.c
  wr0 : ∀ b, b < (S 0).H.n → (S τ).H.wr b → (S 0).H.wr b
  lv0 : ∀ b, b < (S 0).H.n → ((S τ).H.get b).isSome → ((S 0).H.get b).isSome
  os : w.os = w0.os
  tape : w.tape = w0.tape
  output : w.output = w0.output
  wsize : w0.heap.size ≤ w.heap.size
  keep : ∀ c, c < w0.heap.size → ¬ owned m0 (S 0).H c → w.heap[c]? = w0.heap[c]?
  live : ∀ b K ob, m b = some K → Cur S ops.size τ b ob → (m0 b = some K ∧ ((S 0).H.get b).isSome) ∨ ((S 0).H.n ≤ b ∧ (owned m0 (S 0).H K.c ∨ w0.heap.size ≤ K.c))
  akeep : ∀ b, b < (S 0).H.n → m0 b = none → (S τ).H.get b = (S 0).H.get b
variable {m0 : Map} {a0 : Act} {w0 : World} {L : Array Bool} {τ : Nat} {m : Map} {a : Act} {w : World}
theorem Inv.onb [Bs] (hb0 : Bas m0 (S 0).H w0) (h : Inv P T n ops S V m0 a0 w0 L τ m a w) : OnBs w where
  ksz := Nat.le_trans hb0.ksz h.wsize
  low := fun c hc => (h.keep c (Nat.lt_of_lt_of_le hc hb0.ksz) (by
    rintro ⟨b, K, h1, h2, rfl⟩
    have := hb0.own b K h1 h2
    omega)).trans (hb0.low c hc)
theorem Inv.own' [Bs] (hb0 : Bas m0 (S 0).H w0) (hd0 : ∀ b K, m0 b = some K → b < (S 0).H.n) (h : Inv P T n ops S V m0 a0 w0 L τ m a w) {b : Nat} {K : Loc} {ob : Ob} (hb : m b = some K) (hlt : b < (S τ).H.n) (hget : (S τ).H.get b = some ob) (hro : ob.ro = false) : Bs.K ≤ K.c := by
  rcases h.live b K ob hb (.inl ⟨hlt, hget⟩) with ⟨h1, _⟩ | ⟨_, h2 | h2⟩
  · exact hb0.own b K h1 (h.wr0 b (hd0 b K h1) ⟨ob, hget, hro⟩)
  · obtain ⟨b', L', h3, h4, h5⟩ := h2
    have := hb0.own b' L' h3 h4
    omega
  · exact Nat.le_trans hb0.ksz h2
/-- Who made a block. -/
theorem maker_eq (hC : Canon P T callf n ops S V) {i j b : Nat} (hi : i < ops.size) (hj : j < ops.size) (h1 : (S i).H.n ≤ b) (h2 : b < (S (i + 1)).H.n) (h3 : (S j).H.n ≤ b) (h4 : b < (S (j + 1)).H.n) : i = j := by
  rcases Nat.lt_trichotomy i j with h | h | h
  · have := hC.monoLe j (i + 1) (by omega) (by omega); omega
  · exact h
  · have := hC.monoLe i (j + 1) (by omega) (by omega); omega
theorem Inv.dom' (hC : Canon P T callf n ops S V) (hd0 : ∀ b K, m0 b = some K → b < (S 0).H.n) (h : Inv P T n ops S V m0 a0 w0 L τ m a w) {b : Nat} {K : Loc} (hb : m b = some K) (hτ : (S τ).H.n ≤ b) :
    ∃ i, τ ≤ i ∧ i < ops.size ∧ L.getD i false = true ∧ (S i).H.n ≤ b ∧ b < (S (i + 1)).H.n := by
  rcases h.dom b K hb with h1 | ⟨i, h1, h2, h3, h4⟩
  · have := hd0 b K h1
    have := hC.monoLe τ 0 (by omega) h.front.1
    omega
  · refine ⟨i, ?_, h1, h2, h3, h4⟩
    rcases Nat.lt_or_ge i τ with h5 | h5
    · have := hC.monoLe τ (i + 1) (by omega) h.front.1; omega
    · exact h5
/-- The place goes on over what is no act. -/
theorem Inv.shift (hC : Canon P T callf n ops S V) (hd0 : ∀ b K, m0 b = some K → b < (S 0).H.n) (h : Inv P T n ops S V m0 a0 w0 L τ m a w) {τ' : Nat} (hle : τ ≤ τ') (hf : Front T ops L τ') : Inv P T n ops S V m0 a0 w0 L τ' m a w := by
  have hno : ∀ k, τ ≤ k → k < τ' → ¬ ActAt T ops k := fun k h1 h2 ha => by
    have h3 := h.front.2.2 k h1 ha
    have h4 := hf.2.1 k h2 ha
    rw [h3] at h4; cases h4
  have hn : (S τ).H.n ≤ (S τ').H.n := hC.monoLe τ' τ hle hf.1
  have hs : ∀ b, b < (S τ).H.n → (S τ').H.get b = (S τ).H.get b := hC.stills τ' τ hle hf.1 hno
  have hs2 : ∀ i, τ ≤ i → i < τ' → ∀ b, b < (S (i + 1)).H.n → (S τ').H.get b = (S (i + 1)).H.get b := fun i h1 h2 => hC.stills τ' (i + 1) (by omega) hf.1 fun k h3 h4 => hno k (by omega) h4
  have h0 : (S 0).H.n ≤ (S τ).H.n := hC.monoLe τ 0 (by omega) h.front.1
  have hcur : ∀ b K ob, m b = some K → Cur S ops.size τ' b ob → Cur S ops.size τ b ob := by
    intro b K ob hb hc
    rcases hc with ⟨h1, h2⟩ | ⟨h1, i, h2, h3⟩
    · by_cases hb2 : b < (S τ).H.n
      · exact .inl ⟨hb2, by rw [← hs b hb2]; exact h2⟩
      · obtain ⟨i, g1, g2, g3, g4, g5⟩ := h.dom' hC hd0 hb (by omega)
        have hi : i < τ' := by
          rcases Nat.lt_or_ge i τ' with h5 | h5
          · exact h5
          · have := hC.monoLe i τ' h5 (by omega); omega
        exact .inr ⟨by omega, i, g1, g2, g4, g5, by rw [← hs2 i g1 hi b g5]; exact h2⟩
    · exact .inr ⟨by omega, i, by omega, h3⟩
  exact {
    closed := h.closed, sizeL := h.sizeL, front := hf, le := h.le, dom := h.dom, size := h.size, defers := h.defers
    tmv := fun i oi d h1 h2 h3 => (h.tmv i oi d h1 h2 h3).mono (cut_mono (Map.le_refl m) (by unfold bd; omega))
    tm0 := h.tm0
    blk := fun b K ob hb hlt ho => by
      by_cases hb2 : b < (S τ).H.n
      · exact (h.blk b K ob hb hb2 (by rw [← hs b hb2]; exact ho)).mono (cut_mono (Map.le_refl m) hn) rfl
      · obtain ⟨i, g1, g2, g3, g4, g5⟩ := h.dom' hC hd0 hb (by omega)
        have hi : i < τ' := by
          rcases Nat.lt_or_ge i τ' with h5 | h5
          · exact h5
          · have := hC.monoLe i τ' h5 (by omega); omega
        exact (h.blk2 i b K ob g1 g2 g3 hb g4 g5 (by rw [← hs2 i g1 hi b g5]; exact ho)).mono (cut_mono (Map.le_refl m) (hC.monoLe τ' (i + 1) (by omega) hf.1)) rfl
    blk2 := fun i b K ob h1 h2 h3 h4 h5 h6 h7 => h.blk2 i b K ob (by omega) h2 h3 h4 h5 h6 h7
    late := fun i h1 h2 b h3 h4 => by
      rcases Nat.lt_or_ge i τ with h5 | h5
      · rw [hs b (Nat.lt_of_lt_of_le h4 (hC.monoLe τ (i + 1) (by omega) h.front.1))]
        exact h.late i h5 h2 b h3 h4
      · exact hs2 i h5 h1 b h4
    inj := fun b1 b2 K1 K2 o1 o2 h1 h2 h3 h4 h5 h6 => h.inj b1 b2 K1 K2 o1 o2 h1 h2 h3 (hcur _ _ _ h1 h4) h5 (hcur _ _ _ h2 h6)
    wr0 := fun b hb hw => h.wr0 b hb (by obtain ⟨q, h1, h2⟩ := hw; exact ⟨q, by rw [← hs b (by omega)]; exact h1, h2⟩)
    lv0 := fun b hb hw => h.lv0 b hb (by rw [← hs b (by omega)]; exact hw)
    os := h.os, tape := h.tape, output := h.output, wsize := h.wsize, keep := h.keep
    live := fun b K ob h1 h2 => h.live b K ob h1 (hcur _ _ _ h1 h2)
    akeep := fun b hb h1 => by rw [hs b (by omega)]; exact h.akeep b hb h1 }
/-- What an operation that is ready looks at goes together. -/
theorem Inv.looks (hC : Canon P T callf n ops S V) (hD : DrawOk T ops) (hd0 : ∀ b K, m0 b = some K → b < (S 0).H.n) (h : Inv P T n ops S V m0 a0 w0 L τ m a w) {j : Nat} {oj : Oper} (hj : ops[j]? = some oj) (hun : L.getD j false = false)
    (hready : ∀ e ∈ oj.after, binds e = true → L.getD e.on false = true) :
    ∀ t ∈ oj.looksAt ops, VR (cut m (bd S τ j)) (((S j).tm.get t).getD undef) (a.tmps.getD t undef) := by
  intro t ht
  have hjlt : j < ops.size := (Array.getElem?_eq_some_iff.1 hj).1
  have hlist : ∀ i oi, ops[i]? = some oi → oi.dst = some t → (i < j ↔ L.getD i false = true) := by
    intro i oi hi hd
    obtain ⟨hne, hord⟩ := hD.look i j oi oj t hi hj hd ht
    unfold ordered at hord
    cases hb : i.blt j
    · rw [hb] at hord
      simp only [cond_false] at hord
      have hnot : ¬ i < j := fun hl => by
        have : i.blt j = true := by simpa [Nat.blt_eq] using hl
        rw [this] at hb; cases hb
      refine ⟨fun hl => absurd hl hnot, fun hl => ?_⟩
      have := closed_before h.closed i j (fun o ho e he hbe => h.closed i o ho hl e he hbe) hord
      rw [hun] at this; cases this
    · rw [hb] at hord
      simp only [cond_true] at hord
      have hlt : i < j := by simpa [Nat.blt_eq] using hb
      refine ⟨fun _ => ?_, fun _ => hlt⟩
      exact closed_before h.closed j i (fun o ho e he hbe => by rw [hj] at ho; cases ho; exact hready e he hbe) hord
  obtain ⟨h1, h2⟩ := hC.tms hD t j (by omega)
  by_cases hex : ∃ i oi, ops[i]? = some oi ∧ oi.dst = some t ∧ L.getD i false = true
  · obtain ⟨i, oi, hi, hd, hl⟩ := hex
    have hij := (hlist i oi hi hd).2 hl
    rw [h1 i oi hij hi hd]
    refine (h.tmv i oi t hi hl hd).mono (cut_mono (Map.le_refl m) ?_)
    have := hC.monoLe (j + 1) (i + 1) (by omega) (by omega)
    unfold bd; omega
  · have hno : ∀ i oi, ops[i]? = some oi → L.getD i false = true → oi.dst ≠ some t := fun i oi hi hl hd => hex ⟨i, oi, hi, hd, hl⟩
    rw [h2 fun i oi hi hoi hd => hno i oi hoi ((hlist i oi hoi hd).1 hi) hd]
    refine (h.tm0 t hno).mono fun b K hb => cut_mk ?_ (h.le _ _ hb)
    have h3 := hd0 b K hb
    have := hC.monoLe (j + 1) 0 (by omega) (by omega)
    unfold bd; omega
end
end Go.Ev
