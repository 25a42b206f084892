/- Memory under other names: a part of it, told by names of its own. -/
import Derived.Test.YthmcpmdohmfeiaaGreatDoorEa4
import Derived.Test.YthmcpmdohmfeiaaGreatDoorEa6
namespace Go.Ev
open Go
set_option linter.unusedVariables false
set_option linter.unusedSimpArgs false
/-- Two values that are alike but for the names of blocks. -/
inductive Rn (r : Nat → Nat → Prop) : Value → Value → Prop where
  | same {v : Value} (h : plain v = true) : Rn r v v
  | ptr {b b' off : Nat} (h : r b b') : Rn r (.pointer (some ⟨b, off, none⟩)) (.pointer (some ⟨b', off, none⟩))
  | slice {b b' off len cap : Nat} (h : r b b') : Rn r (.slice (some ⟨b, off, none⟩) len cap) (.slice (some ⟨b', off, none⟩) len cap)
  | map {b b' : Nat} (h : r b b') : Rn r (.map (some b)) (.map (some b'))
  | agg {xs ys : Array Value} (hs : xs.size = ys.size) (h : ∀ i (h1 : i < xs.size) (h2 : i < ys.size), Rn r xs[i] ys[i]) : Rn r (.agg xs) (.agg ys)
theorem Rn.vr {r : Nat → Nat → Prop} {m m' : Map} (hm : ∀ b b', r b b' → m b = m' b') {v v' x : Value} (h : Rn r v v') (k : VR m' v' x) : VR m v x := by
  induction h generalizing x with
  | same h => rw [k.plain_eq h]; exact .same h
  | ptr h =>
    cases k with
    | same h => cases h
    | ptr h2 hl => exact .ptr ((hm _ _ h).trans h2) hl
  | slice h =>
    cases k with
    | same h => cases h
    | slice h2 hl hc => exact .slice ((hm _ _ h).trans h2) hl hc
  | map h =>
    cases k with
    | same h => cases h
    | map h2 hl => exact .map ((hm _ _ h).trans h2) hl
  | agg hs _ ih =>
    cases k with
    | same h => cases h
    | agg hs2 h2 => exact .agg (hs.trans hs2) fun i h1 h3 => ih i h1 (by omega) (h2 i (by omega) h3)
theorem Rn.plain_eq {r : Nat → Nat → Prop} {v v' : Value} (h : Rn r v v') (hp : plain v' = true) : v = v' := by
  cases h <;> first | rfl | cases hp
theorem Rn.closed_eq {r : Nat → Nat → Prop} {v v' : Value} (h : Rn r v v') (hp : closed v' = true) : v = v' := by
  cases h with
  | same h => rfl
  | ptr h => cases hp
  | slice h => cases hp
  | map h => cases hp
  | agg hs h =>
    simp only [closed, List.all_eq_true] at hp
    congr 1
    refine Array.ext hs fun i h1 h2 => ?_
    exact (h i h1 h2).plain_eq (hp _ (by simp))
theorem Rn.mono {r q : Nat → Nat → Prop} (hq : ∀ b b', r b b' → q b b') {v v' : Value} (h : Rn r v v') : Rn q v v' := by
  induction h with
  | same h => exact .same h
  | ptr h => exact .ptr (hq _ _ h)
  | slice h => exact .slice (hq _ _ h)
  | map h => exact .map (hq _ _ h)
  | agg hs _ ih => exact .agg hs ih
def RnL (r : Nat → Nat → Prop) (xs ys : List Value) : Prop := xs.length = ys.length ∧ ∀ (i : Nat) (x y : Value), xs[i]? = some x → ys[i]? = some y → Rn r x y
theorem RnL.nil (r : Nat → Nat → Prop) : RnL r [] [] := ⟨rfl, fun i x y h => by simp at h⟩
theorem RnL.cons {r : Nat → Nat → Prop} {x y : Value} {xs ys : List Value} (h : Rn r x y) (k : RnL r xs ys) : RnL r (x :: xs) (y :: ys) := by
  refine ⟨by simp [k.1], fun i a b ha hb => ?_⟩
  cases i with
  | zero => simp at ha hb; subst ha hb; exact h
  | succ i => exact k.2 i a b (by simpa using ha) (by simpa using hb)
theorem RnL.uncons {r : Nat → Nat → Prop} {xs : List Value} {y : Value} {ys : List Value} (h : RnL r xs (y :: ys)) : ∃ x zs, xs = x :: zs ∧ Rn r x y ∧ RnL r zs ys := by
  cases xs with
  | nil => have := h.1; simp at this
  | cons x zs =>
    refine ⟨x, zs, rfl, h.2 0 x y rfl rfl, by have := h.1; simpa using this, fun i a b ha hb => ?_⟩
    exact h.2 (i + 1) a b (by simpa using ha) (by simpa using hb)
theorem RnL.at {r : Nat → Nat → Prop} {xs ys : List Value} (h : RnL r xs ys) {i : Nat} {x : Value} (hx : xs[i]? = some x) : ∃ y, ys[i]? = some y ∧ Rn r x y := by
  obtain ⟨hi, rfl⟩ := List.getElem?_eq_some_iff.1 hx
  have hj : i < ys.length := by rw [← h.1]; exact hi
  exact ⟨ys[i], List.getElem?_eq_getElem hj, h.2 i _ _ hx (List.getElem?_eq_getElem hj)⟩
theorem RnL.mono {r q : Nat → Nat → Prop} (hq : ∀ b b', r b b' → q b b') {xs ys : List Value} (h : RnL r xs ys) : RnL q xs ys := ⟨h.1, fun i x y a b => (h.2 i x y a b).mono hq⟩
theorem RnL.plain_eq {r : Nat → Nat → Prop} : ∀ {ys xs : List Value}, RnL r xs ys → (∀ y ∈ ys, plain y = true) → xs = ys := by
  intro ys
  induction ys with
  | nil => intro xs h _; cases xs with
    | nil => rfl
    | cons x xs => have := h.1; simp at this
  | cons y ys ih =>
    intro xs h hp
    obtain ⟨x, zs, rfl, h1, h2⟩ := h.uncons
    rw [h1.plain_eq (hp y List.mem_cons_self), ih h2 fun z hz => hp z (List.mem_cons_of_mem _ hz)]
structure ObRn (r : Nat → Nat → Prop) (o o' : Ob) : Prop where
  elem : o.elem = o'.elem
  ro : o.ro = o'.ro
  cells : RnL r o.cells o'.cells
theorem ObRn.mono {r q : Nat → Nat → Prop} (hq : ∀ b b', r b b' → q b b') {o o' : Ob} (h : ObRn r o o') : ObRn q o o' := ⟨h.elem, h.ro, h.cells.mono hq⟩
theorem mcells_rn {r : Nat → Nat → Prop} : ∀ {l' : List Row} {xs : List Value}, RnL r xs (mcells l') → (∀ x ∈ l', closed x.1 = true) →
    ∃ l : List Row, xs = mcells l ∧ l.length = l'.length ∧ ∀ (i : Nat) (x : Row), l[i]? = some x → ∃ y : Row, l'[i]? = some y ∧ x.1 = y.1 ∧ Rn r x.2.1 y.2.1 ∧ x.2.2 = y.2.2 := by
  intro l'
  induction l' with
  | nil =>
    intro xs h _
    have : xs = [] := List.eq_nil_of_length_eq_zero (by have := h.1; simpa [mcells] using this)
    exact ⟨[], this, rfl, fun i x hx => by simp at hx⟩
  | cons y l' ih =>
    intro xs h hc
    have h : RnL r xs (y.1 :: y.2.1 :: .int .i64 (y.2.2 : Nat) :: mcells l') := h
    obtain ⟨a, xs1, rfl, h1, h⟩ := h.uncons
    obtain ⟨b, xs2, rfl, h2, h⟩ := h.uncons
    obtain ⟨c, xs3, rfl, h3, h⟩ := h.uncons
    obtain ⟨l, rfl, h4, h5⟩ := ih h fun x hx => hc x (List.mem_cons_of_mem _ hx)
    obtain rfl := h1.closed_eq (hc y List.mem_cons_self)
    obtain rfl := h3.plain_eq rfl
    refine ⟨(y.1, b, y.2.2) :: l, rfl, by simp [h4], fun i x hx => ?_⟩
    cases i with
    | zero => simp at hx; subst hx; exact ⟨y, rfl, rfl, h2, rfl⟩
    | succ i => exact h5 i x (by simpa using hx)
theorem BlkOk.rn {P : Program} {r : Nat → Nat → Prop} {m m' : Map} (hm : ∀ b b', r b b' → m b = m' b') {o o' : Ob} (ho : ObRn r o o') {L : Loc} {w : World} (h : BlkOk P m' o' L w) : BlkOk P m o L w := by
  obtain ⟨he, hro, hc⟩ := ho
  rcases h with ⟨hl, cs, e, fz, h1, h2, h3, h4, h5⟩ | ⟨hl, hr, ⟨es, cl, l, h1, h2, h3, h4⟩ | ⟨b, M, s, st, seen, h0, h1, h2, h3⟩⟩
  · refine .inl ⟨hl, cs, e, fz, h1, by rw [hc.1]; exact h2, fun i x hx => ?_, fun hr => ?_, ?_⟩
    · obtain ⟨y, hy, hxy⟩ := hc.at hx
      obtain ⟨z, hz, hv⟩ := h3 i y hy
      exact ⟨z, hz, hxy.vr hm hv⟩
    · rw [he]; exact h4 (hro ▸ hr)
    · rw [he]; exact h5
  · rw [h2] at hc
    obtain ⟨x0, xs, e0, k1, k2⟩ := hc.uncons
    have hcl : ∀ x ∈ l, closed x.1 = true := fun x hx => by
      obtain ⟨i, hi, rfl⟩ := List.getElem_of_mem hx
      obtain ⟨e, _, hk, _⟩ := h4 i l[i] (List.getElem?_eq_getElem hi)
      exact hk.1
    obtain ⟨l2, rfl, k3, k4⟩ := mcells_rn k2 hcl
    obtain rfl := k1.plain_eq rfl
    refine .inr ⟨hl, hro.trans hr, .inl ⟨es, cl, l2, h1, e0, k3.trans h3, fun i x hx => ?_⟩⟩
    obtain ⟨y, hy, g1, g2, g3⟩ := k4 i x hx
    obtain ⟨e, q1, q2, q3, q4⟩ := h4 i y hy
    exact ⟨e, q1, by rw [g1]; exact q2, g2.vr hm q3, by rw [g3]; exact q4⟩
  · rw [h3] at hc
    obtain ⟨x0, xs, e0, k1, k2⟩ := hc.uncons
    have hx : xs = .int .i64 (s : Nat) :: .int .i64 (st : Nat) :: seen.map fun n => .int .i64 (n : Nat) := k2.plain_eq fun y hy => by
      rcases List.mem_cons.1 hy with rfl | hy
      · rfl
      · rcases List.mem_cons.1 hy with rfl | hy
        · rfl
        · obtain ⟨n, _, rfl⟩ := List.mem_map.1 hy; rfl
    cases k1 with
    | same h => cases h
    | map hb => exact .inr ⟨hl, hro.trans hr, .inr ⟨_, M, s, st, seen, (hm _ _ hb).trans h0, h1, h2, by rw [e0, hx]; rfl⟩⟩
/-- A part of memory, under names of its own. -/
structure Emb (θ : Nat → Option Nat) (S H : Heap) : Prop where
  dom : ∀ b b', θ b = some b' → b < S.n
  inj : ∀ a b c, θ a = some c → θ b = some c → a = b
  cov : ∀ b o, S.get b = some o → ∃ b' o', θ b = some b' ∧ H.get b' = some o' ∧ ObRn (fun a c => θ a = some c) o o'
def via (θ : Nat → Option Nat) (m : Map) : Map := fun b => (θ b).bind m
theorem via_some {θ : Nat → Option Nat} {m : Map} {b : Nat} {L : Loc} (h : via θ m b = some L) : ∃ b', θ b = some b' ∧ m b' = some L := Option.bind_eq_some_iff.1 h
theorem via_at {θ : Nat → Option Nat} {m : Map} {b b' : Nat} (h : θ b = some b') : via θ m b = m b' := by unfold via; rw [h]; rfl
theorem Emb.wr {θ : Nat → Option Nat} {S H : Heap} (h : Emb θ S H) {b b' : Nat} (hb : θ b = some b') (hw : S.wr b) : H.wr b' := by
  obtain ⟨o, ho, hr⟩ := hw
  obtain ⟨c, o', h1, h2, h3⟩ := h.cov b o ho
  rw [hb] at h1; cases h1
  exact ⟨o', h2, h3.ro.symm.trans hr⟩
theorem Emb.live {θ : Nat → Option Nat} {S H : Heap} (h : Emb θ S H) {b b' : Nat} (hb : θ b = some b') (hw : (S.get b).isSome) : (H.get b').isSome := by
  obtain ⟨o, ho⟩ := Option.isSome_iff_exists.1 hw
  obtain ⟨c, o', h1, h2, h3⟩ := h.cov b o ho
  rw [hb] at h1; cases h1
  simp [h2]
theorem Emb.owned {θ : Nat → Option Nat} {S H : Heap} (h : Emb θ S H) {m : Map} {c : Nat} (hc : owned (via θ m) S c) : owned m H c := by
  obtain ⟨b, L, h1, h2, rfl⟩ := hc
  obtain ⟨b', h3, h4⟩ := via_some h1
  exact ⟨b', L, h4, h.wr h3 h2, rfl⟩
theorem Rep.sub [Bs] {P : Program} {θ : Nat → Option Nat} {S H : Heap} (h : Emb θ S H) {m : Map} {w : World} (hr : Rep P m H w) : Rep P (via θ m) S w := by
  refine ⟨⟨fun b L hb => ?_, fun b L o hb ho => ?_, fun b1 b2 L1 L2 h1 h2 hw hl hne => ?_⟩, ⟨hr.bas.toOnBs, fun b L hb hw => ?_⟩⟩
  · obtain ⟨b', h1, h2⟩ := via_some hb; exact h.dom b b' h1
  · obtain ⟨b', h1, h2⟩ := via_some hb
    obtain ⟨c, o', h3, h4, h5⟩ := h.cov b o ho
    rw [h1] at h3; cases h3
    exact (hr.blk b' L o' h2 h4).rn (fun a c hac => via_at hac) h5
  · obtain ⟨c1, k1, k2⟩ := via_some h1
    obtain ⟨c2, k3, k4⟩ := via_some h2
    exact hr.inj c1 c2 L1 L2 k2 k4 (h.wr k1 hw) (h.live k3 hl) fun e => hne (h.inj _ _ _ k1 (e ▸ k3))
  · obtain ⟨b', h1, h2⟩ := via_some hb
    exact hr.bas.own b' L h2 (h.wr h1 hw)
end Go.Ev
/- A part of memory that a call has turned: what the whole is then. -/
namespace Go.Ev
open Go
set_option linter.unusedVariables false
set_option linter.unusedSimpArgs false
/-- A value that leads to a block. -/
inductive Leads (b : Nat) : Value → Prop where
  | ptr (off : Nat) : Leads b (.pointer (some ⟨b, off, none⟩))
  | slice (off len cap : Nat) : Leads b (.slice (some ⟨b, off, none⟩) len cap)
  | map : Leads b (.map (some b))
theorem Leads.not_plain {b : Nat} {x : Value} (h : Leads b x) : plain x = false := by cases h <;> rfl
theorem Leads.not_closed {b : Nat} {x : Value} (h : Leads b x) : closed x = false := by cases h <;> rfl
theorem Leads.rn {b : Nat} {x y : Value} (h : Leads b x) {r : Nat → Nat → Prop} (k : Rn r x y) : ∃ b', r b b' ∧ Leads b' y := by
  cases h with
  | ptr off => cases k with
    | same h => cases h
    | ptr h => exact ⟨_, h, .ptr off⟩
  | slice off len cap => cases k with
    | same h => cases h
    | slice h => exact ⟨_, h, .slice off len cap⟩
  | map => cases k with
    | same h => cases h
    | map h => exact ⟨_, h, .map⟩
theorem Leads.fn {b c : Nat} {x : Value} (h : Leads b x) (k : Leads c x) : b = c := by cases h <;> cases k <;> rfl
theorem Leads.vr {b : Nat} {x z : Value} (h : Leads b x) {m : Map} (k : VR m x z) : ∃ L, m b = some L := by
  cases h with
  | ptr off => cases k with
    | same h => cases h
    | ptr h _ => exact ⟨_, h⟩
  | slice off len cap => cases k with
    | same h => cases h
    | slice h _ _ => exact ⟨_, h⟩
  | map => cases k with
    | same h => cases h
    | map h _ => exact ⟨_, h⟩
theorem BlkOk.leads {P : Program} {m : Map} {o : Ob} {L : Loc} {w : World} (h : BlkOk P m o L w) {x : Value} (hx : x ∈ o.cells) {b : Nat} (hl : Leads b x) : ∃ L, m b = some L := by
  rcases h with ⟨_, cs, e, fz, h1, h2, h3, h4, h5⟩ | ⟨_, hr, ⟨es, cl, l, h1, h2, h3, h4⟩ | ⟨c, M, s, st, seen, h0, h1, h2, h3⟩⟩
  · obtain ⟨i, hi, rfl⟩ := List.getElem_of_mem hx
    obtain ⟨y, hy, hv⟩ := h3 i _ (List.getElem?_eq_getElem hi)
    exact hl.vr hv
  · rw [h2] at hx
    rcases List.mem_cons.1 hx with rfl | hx
    · cases hl
    · obtain ⟨row, hrow, hx⟩ := List.mem_flatMap.1 hx
      obtain ⟨i, hi, rfl⟩ := List.getElem_of_mem hrow
      obtain ⟨e, _, hk, hv, _⟩ := h4 i _ (List.getElem?_eq_getElem hi)
      simp only [List.mem_cons, List.not_mem_nil, or_false] at hx
      rcases hx with rfl | rfl | rfl
      · rw [hl.not_closed] at hk; cases hk.1
      · exact hl.vr hv
      · cases hl
  · rw [h3] at hx
    rcases List.mem_cons.1 hx with rfl | hx
    · cases hl; exact ⟨M, h0⟩
    · rcases List.mem_cons.1 hx with rfl | hx
      · cases hl
      · rcases List.mem_cons.1 hx with rfl | hx
        · cases hl
        · obtain ⟨n, _, rfl⟩ := List.mem_map.1 hx; cases hl
/-- Each block but the first is led to by one ahead of it. -/
def Led (S : Heap) : Prop := ∀ b, b ≠ 0 → (S.get b).isSome → ∃ a o x, a < b ∧ S.get a = some o ∧ x ∈ o.cells ∧ Leads b x
theorem Emb.known [Bs] {P : Program} {θ : Nat → Option Nat} {S H : Heap} (h : Emb θ S H) (hp : Led S) {m : Map} {w : World} (hr : Rep P m H w) (h0 : ∀ b', θ 0 = some b' → (m b').isSome) :
    ∀ b b', (S.get b).isSome → θ b = some b' → (m b').isSome := by
  intro b
  induction b using Nat.strongRecOn with
  | _ b ih =>
    intro b' hs hb
    by_cases hz : b = 0
    · subst hz; exact h0 b' hb
    · obtain ⟨a, o, x, hab, ha, hx, hl⟩ := hp b hz hs
      obtain ⟨a', o', h1, h2, h3⟩ := h.cov a o ha
      obtain ⟨La, hLa⟩ := Option.isSome_iff_exists.1 (ih a hab a' (by simp [ha]) h1)
      obtain ⟨i, hi, rfl⟩ := List.getElem_of_mem hx
      obtain ⟨y, hy, hxy⟩ := h3.cells.at (List.getElem?_eq_getElem hi)
      obtain ⟨c, hc, hlc⟩ := hl.rn hxy
      have hc : θ b = some c := hc
      rw [hb] at hc; cases hc
      obtain ⟨L, hL⟩ := (hr.blk a' La o' hLa h2).leads (List.mem_of_getElem? hy) hlc
      simp [hL]
theorem Emb.unique {θ φ : Nat → Option Nat} {S H : Heap} (h : Emb θ S H) (k : Emb φ S H) (hp : Led S) (h0 : θ 0 = φ 0) : ∀ b, (S.get b).isSome → θ b = φ b := by
  intro b
  induction b using Nat.strongRecOn with
  | _ b ih =>
    intro hs
    by_cases hz : b = 0
    · subst hz; exact h0
    · obtain ⟨a, o, x, hab, ha, hx, hl⟩ := hp b hz hs
      obtain ⟨a1, o1, h1, h2, h3⟩ := h.cov a o ha
      obtain ⟨a2, o2, k1, k2, k3⟩ := k.cov a o ha
      have he := ih a hab (by simp [ha])
      rw [h1, k1] at he; cases he
      rw [h2] at k2; cases k2
      obtain ⟨i, hi, rfl⟩ := List.getElem_of_mem hx
      obtain ⟨y, hy, hxy⟩ := h3.cells.at (List.getElem?_eq_getElem hi)
      have hxz := k3.cells.2 i _ y (List.getElem?_eq_getElem hi) hy
      obtain ⟨c1, g1, g2⟩ := hl.rn hxy
      obtain ⟨c2, g3, g4⟩ := hl.rn hxz
      have g1 : θ b = some c1 := g1
      have g3 : φ b = some c2 := g3
      rw [g1, g3, g2.fn g4]
/-! Names for what is new -/
def eta (g n i : Nat) : Nat := bif i.beq 0 then g else n + i
def renV (g n : Nat) (v : Value) : Value := match v with
  | .pointer (some ⟨b, off, none⟩) => .pointer (some ⟨eta g n b, off, none⟩)
  | .slice (some ⟨b, off, none⟩) l c => .slice (some ⟨eta g n b, off, none⟩) l c
  | .map (some b) => .map (some (eta g n b))
  | v => v
def Simple (v : Value) : Prop := plain v = true ∨ ∃ b, Leads b v
theorem renV_rn (g n : Nat) {v : Value} (h : Simple v) : Rn (fun a b => a = eta g n b) (renV g n v) v := by
  rcases h with h | ⟨b, h⟩
  · have : renV g n v = v := by
      unfold renV
      split <;> first | rfl | cases h
    rw [this]; exact .same h
  · cases h with
    | ptr off => exact .ptr rfl
    | slice off len cap => exact .slice rfl
    | map => exact .map rfl
def renO (g n : Nat) (o : Ob) : Ob := ⟨o.cells.map (renV g n), o.elem, o.ro⟩
theorem renO_rn (g n : Nat) {o : Ob} (h : ∀ x ∈ o.cells, Simple x) : ObRn (fun a b => a = eta g n b) (renO g n o) o := by
  refine ⟨rfl, rfl, by simp [renO], fun i x y hx hy => ?_⟩
  have hx : (o.cells.map (renV g n))[i]? = some x := hx
  rw [List.getElem?_map, hy] at hx
  simp at hx
  subst hx
  exact renV_rn g n (h y (List.mem_of_getElem? hy))
/-- Memory with a part laid anew. -/
def insF (g : Nat) (rg : Nat → Bool) (S H : Heap) (b : Nat) : Option Ob :=
  bif b.beq g then (S.get 0).map (renO g H.n) else bif rg b then none else bif b.blt H.n then H.get b else bif b.blt (H.n + S.n) then (bif b.beq H.n then none else (S.get (b - H.n)).map (renO g H.n)) else H.get b
def insH (g : Nat) (rg : Nat → Bool) (S H : Heap) : Heap := ⟨full 15 (insF g rg S H), H.n + S.n⟩
theorem insH_get {g : Nat} {rg : Nat → Bool} {S H : Heap} {b : Nat} (h : b < 32767) : (insH g rg S H).get b = insF g rg S H b := full_get 15 (insF g rg S H) b (show b + 1 < 2 ^ 15 by omega)
theorem insH_get' {g : Nat} {rg : Nat → Bool} {S H : Heap} {b : Nat} {o : Ob} (h : (insH g rg S H).get b = some o) : b < 32767 ∧ insF g rg S H b = some o := by
  by_cases hb : b < 32767
  · exact ⟨hb, by rw [← insH_get hb]; exact h⟩
  · have e15 : (2 : Nat) ^ 15 = 32768 := rfl
    have e : (insH g rg S H).get b = none := full_none 15 (insF g rg S H) b (by omega)
    rw [e] at h; cases h
theorem blt_false {a b : Nat} (h : a.blt b = false) : ¬ a < b := fun q => by rw [show Nat.blt a b = true from Nat.ble_eq_true_of_le q] at h; cases h
/-- What a block is there. -/
theorem insF_some {g : Nat} {rg : Nat → Bool} {S H : Heap} {b : Nat} {o : Ob} (h : insF g rg S H b = some o) (hg : g < H.n) (hwf : HWf H) :
    (b < H.n ∧ b ≠ g ∧ rg b = false ∧ H.get b = some o) ∨ ∃ i o', b = eta g H.n i ∧ (i ≠ 0 → H.n < b) ∧ S.get i = some o' ∧ o = renO g H.n o' := by
  unfold insF at h
  cases h1 : b.beq g
  · rw [h1, cond_false] at h
    have h1 : b ≠ g := Nat.ne_of_beq_eq_false h1
    cases h2 : rg b
    · rw [h2, cond_false] at h
      cases h3 : b.blt H.n
      · rw [h3, cond_false] at h
        have h3 := blt_false h3
        cases h5 : b.blt (H.n + S.n)
        · rw [h5, cond_false] at h
          have := hwf b (by simp [h])
          omega
        · rw [h5, cond_true] at h
          cases h4 : b.beq H.n
          · rw [h4, cond_false] at h
            have h4 := Nat.ne_of_beq_eq_false h4
            obtain ⟨o', h5, h6⟩ := Option.map_eq_some_iff.1 h
            refine .inr ⟨b - H.n, o', ?_, fun _ => by omega, h5, h6.symm⟩
            unfold eta
            rw [show (b - H.n).beq 0 = false from by
              cases hq : (b - H.n).beq 0
              · rfl
              · have := Nat.eq_of_beq_eq_true hq; omega]
            rw [cond_false]; omega
          · rw [h4] at h; cases h
      · rw [h3, cond_true] at h
        exact .inl ⟨Nat.le_of_ble_eq_true h3, h1, rfl, h⟩
    · rw [h2] at h; cases h
  · rw [h1, cond_true] at h
    have h1 := Nat.eq_of_beq_eq_true h1
    obtain ⟨o', h5, h6⟩ := Option.map_eq_some_iff.1 h
    exact .inr ⟨0, o', h1, fun q => absurd rfl q, h5, h6.symm⟩
/-- What a call turns a small memory to. -/
structure FrS (m : Map) (S : Heap) (w : World) (m1 : Map) (S1 : Heap) (w' : World) : Prop where
  os : w'.os = w.os
  tape : w'.tape = w.tape
  output : w'.output = w.output
  size : w.heap.size ≤ w'.heap.size
  keep : ∀ c, c < w.heap.size → ¬ owned m S c → w'.heap[c]? = w.heap[c]?
  live : ∀ b L, m1 b = some L → (S1.get b).isSome → owned m S L.c ∨ w.heap.size ≤ L.c
theorem Fr.small {m m1 : Map} {S S1 : Heap} {w w' : World} (h : Fr m S w m1 S1 w') (hw : ∀ b, (S.get b).isSome → S.wr b) : FrS m S w m1 S1 w' :=
  ⟨h.os, h.tape, h.output, h.size, h.keep, fun b L hb hl => by
    rcases h.live b L hb hl with ⟨h1, h2⟩ | ⟨_, h2⟩
    · exact .inl ⟨b, L, h1, hw b h2, rfl⟩
    · exact h2⟩
def SemTo [Bs] (P : Program) (f : FuncId) (rest : List Value) (S : Heap) (Y : Heap → Prop) : Prop :=
  ∀ (m : Map) (w : World) (args' : Array Value), Rep P m S w → VRs m (.pointer (some ⟨0, 0, none⟩) :: rest) args'.toList →
    Calls P f args' w fun e w' => e = .returned (.bool true) ∧ ∃ m1 S1, Y S1 ∧ Rep P m1 S1 w' ∧ m1 0 = m 0 ∧ FrS m S w m1 S1 w'
/-- **A call that turns a part of memory turns the whole so.** -/
theorem ins_calls [Bs] {P : Program} {f : FuncId} {rest : List Value} {S S1 H : Heap} (hsem : SemTo P f rest S fun X => X = S1) {θ : Nat → Option Nat} (he : Emb θ S H) (hp : Led S) {g : Nat} (hg : θ 0 = some g) (hg0 : S.wr 0)
    (hs : ∀ b o, S1.get b = some o → ∀ x ∈ o.cells, Simple x) (hS1 : HWf S1) (hn : H.n + S1.n ≤ 32767) (hwf : HWf H) {rg : Nat → Bool} (hrg : ∀ b, rg b = true ↔ ∃ a, (S.get a).isSome ∧ θ a = some b)
    (hc : ∀ x ∈ rest, closed x = true) {m : Map} {w : World} {args' : Array Value} (hr : Rep P m H w) (ha : VRs m (.pointer (some ⟨g, 0, none⟩) :: rest) args'.toList) :
    Calls P f args' w (CallPost P m H w (.bool true) (insH g rg S1 H)) := by
  obtain ⟨Lg, hLg, hLgp⟩ : ∃ L, m g = some L ∧ L.mp = false := by
    obtain ⟨y, _, hy⟩ := ha.2 0 _ rfl
    cases hy with
    | same h => cases h
    | ptr h hl => exact ⟨_, h, hl⟩
  have hgn : g < H.n := hr.dom g Lg hLg
  have ha2 : VRs (via θ m) (.pointer (some ⟨0, 0, none⟩) :: rest) args'.toList := by
    refine ⟨ha.1, fun i x hx => ?_⟩
    cases i with
    | zero =>
      simp at hx; subst hx
      obtain ⟨y, hy, hv⟩ := ha.2 0 _ rfl
      exact ⟨y, hy, (Rn.ptr (r := fun a c => θ a = some c) hg).vr (fun a c hac => via_at hac) hv⟩
    | succ i =>
      obtain ⟨y, hy, hv⟩ := ha.2 (i + 1) x (by simpa using hx)
      have hx' : x ∈ rest := List.mem_of_getElem? (by simpa using hx)
      refine ⟨y, hy, ?_⟩
      rw [hv.closed_eq (hc x hx')]
      exact VR.of_closed (hc x hx')
  have hrS := hr.sub he
  refine (hsem (via θ m) w args' hrS ha2).mono fun e w' hpost => ?_
  obtain ⟨rfl, m1, S2, rfl, hr1, hm0, hf⟩ := hpost
  rw [via_at hg, hLg] at hm0
  have hown : ∀ c, owned (via θ m) S c → owned m H c := fun c h => he.owned h
  let m' : Map := fun b => bif b.blt H.n then m b else m1 (b - H.n)
  have hlt : ∀ b, b < H.n → m' b = m b := fun b h => by
    show (bif b.blt H.n then m b else m1 (b - H.n)) = _
    rw [show Nat.blt b H.n = true from Nat.ble_eq_true_of_le h]; rfl
  have hge : ∀ b, ¬ b < H.n → m' b = m1 (b - H.n) := fun b h => by
    show (bif b.blt H.n then m b else m1 (b - H.n)) = _
    rw [show Nat.blt b H.n = false from by
      cases hq : Nat.blt b H.n
      · rfl
      · exact absurd (Nat.le_of_ble_eq_true hq) h]; rfl
  have heta : ∀ i, m' (eta g H.n i) = m1 i := fun i => by
    unfold eta
    cases hi : i.beq 0
    · rw [cond_false, hge _ (by omega)]; congr 1; omega
    · obtain rfl := Nat.eq_of_beq_eq_true hi
      rw [cond_true, hlt g hgn, hm0, hLg]
  have hle : m.le m' := fun b L h => by rw [hlt b (hr.dom b L h)]; exact h
  have hinj : ∀ i j, eta g H.n i = eta g H.n j → i = j := fun i j h => by
    unfold eta at h
    cases hi : i.beq 0 <;> cases hj : j.beq 0 <;> rw [hi, hj] at h <;> simp only [cond_true, cond_false] at h
    · omega
    · omega
    · omega
    · rw [Nat.eq_of_beq_eq_true hi, Nat.eq_of_beq_eq_true hj]
  have hget : ∀ b o, (insH g rg S2 H).get b = some o → (b < H.n ∧ b ≠ g ∧ rg b = false ∧ H.get b = some o) ∨ ∃ i o', b = eta g H.n i ∧ (i ≠ 0 → H.n < b) ∧ S2.get i = some o' ∧ o = renO g H.n o' := fun b o h => insF_some (insH_get' h).2 hgn hwf
  have hnot : ∀ b L, m b = some L → rg b = false → (H.get b).isSome → ¬ owned (via θ m) S L.c := fun b L hb hq hl ho => by
    obtain ⟨a, La, h1, h2, h3⟩ := ho
    obtain ⟨a', h4, h5⟩ := via_some h1
    have hne : a' ≠ b := fun e => by
      subst e
      have := (hrg a').2 ⟨a, by obtain ⟨o, ho, _⟩ := h2; simp [ho], h4⟩
      rw [hq] at this; cases this
    exact hr.inj a' b La L h5 hb (he.wr h4 h2) hl hne h3
  have hgr : rg g = true := (hrg g).2 ⟨0, by obtain ⟨o, ho, _⟩ := hg0; simp [ho], hg⟩
  have hrep : Rep P m' (insH g rg S2 H) w' := by
    refine ⟨⟨fun b L hb => ?_, fun b L o hb ho => ?_, fun b1 b2 L1 L2 h1 h2 hw1 hl2 hne => ?_⟩, ⟨⟨Nat.le_trans hr.bas.ksz hf.size, fun c hc => ?_⟩, fun b L hb hw => ?_⟩⟩
    · show b < H.n + S2.n
      by_cases h : b < H.n
      · omega
      · rw [hge b h] at hb
        have := hr1.dom _ _ hb
        omega
    · rcases hget b o ho with ⟨h1, h2, h3, h4⟩ | ⟨i, o', rfl, _, h2, rfl⟩
      · rw [hlt b h1] at hb
        have hbk := hr.blk b L o hb h4
        exact hbk.mono hle (hf.keep L.c hbk.lt (hnot b L hb h3 (by simp [h4])))
      · rw [heta] at hb
        exact (hr1.blk i L o' hb h2).rn (fun a c hac => by subst hac; exact heta c) (renO_rn g H.n (hs i o' h2))
    · obtain ⟨o1, ho1, hro1⟩ := hw1
      obtain ⟨o2, ho2⟩ := Option.isSome_iff_exists.1 hl2
      rcases hget b1 o1 ho1 with ⟨a1, a2, a3, a4⟩ | ⟨i, oi, rfl, _, c2, rfl⟩
      · rw [hlt b1 a1] at h1
        rcases hget b2 o2 ho2 with ⟨d1, d2, d3, d4⟩ | ⟨j, oj, rfl, _, d2, rfl⟩
        · rw [hlt b2 d1] at h2
          exact hr.inj b1 b2 L1 L2 h1 h2 ⟨o1, a4, hro1⟩ (by simp [d4]) hne
        · rw [heta] at h2
          have k1 := hnot b1 L1 h1 a3 (by simp [a4])
          have k2 := (hr.blk b1 L1 o1 h1 a4).lt
          rcases hf.live j L2 h2 (by simp [d2]) with k3 | k3
          · intro e; rw [e] at k1; exact k1 k3
          · omega
      · rw [heta] at h1
        have k3 := hf.live i L1 h1 (by simp [c2])
        rcases hget b2 o2 ho2 with ⟨d1, d2, d3, d4⟩ | ⟨j, oj, rfl, _, d2, rfl⟩
        · rw [hlt b2 d1] at h2
          have k1 := hnot b2 L2 h2 d3 (by simp [d4])
          have k2 := (hr.blk b2 L2 o2 h2 d4).lt
          rcases k3 with k3 | k3
          · intro e; rw [← e] at k1; exact k1 k3
          · omega
        · rw [heta] at h2
          exact hr1.inj i j L1 L2 h1 h2 ⟨oi, c2, hro1⟩ (by simp [d2]) fun e => hne (by rw [e])
    · refine (hf.keep c (Nat.lt_of_lt_of_le hc hr.bas.ksz) fun ho => ?_).trans (hr.bas.low c hc)
      obtain ⟨b, L, h1, h2, rfl⟩ := hown c ho
      have := hr.bas.own b L h1 h2
      omega
    · obtain ⟨o, ho, hro⟩ := hw
      rcases hget b o ho with ⟨a1, a2, a3, a4⟩ | ⟨i, oi, rfl, _, c2, rfl⟩
      · rw [hlt b a1] at hb
        exact hr.bas.own b L hb ⟨o, a4, hro⟩
      · rw [heta] at hb
        rcases hf.live i L hb (by simp [c2]) with k3 | k3
        · obtain ⟨b', L', q1, q2, q3⟩ := hown _ k3
          have := hr.bas.own b' L' q1 q2
          omega
        · exact Nat.le_trans hr.bas.ksz k3
  have hsome : ∀ b, b < H.n → rg b = true → (m b).isSome := fun b _ hb => by
    obtain ⟨a, h1, h2⟩ := (hrg b).1 hb
    exact he.known hp hr (fun c hc => by rw [hg] at hc; cases hc; simp [hLg]) a b h1 h2
  have holdget : ∀ b, b < H.n → b ≠ g → rg b = false → (insH g rg S2 H).get b = H.get b := fun b h1 h2 h3 => by
    rw [insH_get (by omega)]
    unfold insF
    rw [show b.beq g = false from by
      cases hq : b.beq g
      · rfl
      · exact absurd (Nat.eq_of_beq_eq_true hq) h2, h3, show Nat.blt b H.n = true from Nat.ble_eq_true_of_le h1]
    rfl
  refine ⟨.bool true, m', rfl, .same rfl, hrep, hf.os, hf.tape, hf.output, hf.size, fun c hc ho => hf.keep c hc fun q => ho (hown c q), hle, ?_, fun b L hb => ?_, fun b L hb hl => ?_, fun b hb hw => ?_, fun b hb hl => ?_, fun b hb hm => ?_⟩
  · show H.n ≤ H.n + S2.n
    omega
  · by_cases h : b < H.n
    · rw [hlt b h] at hb; exact .inl hb
    · exact .inr (by omega)
  · obtain ⟨o, ho⟩ := Option.isSome_iff_exists.1 hl
    rcases hget b o ho with ⟨a1, a2, a3, a4⟩ | ⟨i, oi, rfl, hi, c2, rfl⟩
    · rw [hlt b a1] at hb
      exact .inl ⟨hb, by simp [a4]⟩
    · by_cases h0 : i = 0
      · subst h0
        have e : eta g H.n 0 = g := rfl
        rw [e] at hb ⊢
        rw [hlt g hgn] at hb
        exact .inl ⟨hb, he.live hg (by obtain ⟨o, ho, _⟩ := hg0; simp [ho])⟩
      · rw [heta] at hb
        refine .inr ⟨Nat.le_of_lt (hi h0), ?_⟩
        rcases hf.live i L hb (by simp [c2]) with k | k
        · exact .inl (hown _ k)
        · exact .inr k
  · obtain ⟨o, ho, hro⟩ := hw
    rcases hget b o ho with ⟨a1, a2, a3, a4⟩ | ⟨i, oi, rfl, hi, c2, rfl⟩
    · exact ⟨o, a4, hro⟩
    · by_cases h0 : i = 0
      · subst h0
        exact he.wr hg hg0
      · have := hi h0; omega
  · obtain ⟨o, ho⟩ := Option.isSome_iff_exists.1 hl
    rcases hget b o ho with ⟨a1, a2, a3, a4⟩ | ⟨i, oi, rfl, hi, c2, rfl⟩
    · simp [a4]
    · by_cases h0 : i = 0
      · subst h0
        exact he.live hg (by obtain ⟨o, ho, _⟩ := hg0; simp [ho])
      · have := hi h0; omega
  · refine holdget b hb (fun e => ?_) ?_
    · subst e; rw [hLg] at hm; cases hm
    · cases hq : rg b
      · rfl
      · have := hsome b hb hq
        rw [hm] at this; cases this
theorem ins_grows {g : Nat} {rg : Nat → Bool} {S1 H : Heap} (hg : g < H.n) (h1 : HWf S1) : Grows H (insH g rg S1 H) := by
  refine ⟨by show H.n ≤ H.n + S1.n; omega, fun hwf b hb => ?_⟩
  obtain ⟨o, ho⟩ := Option.isSome_iff_exists.1 hb
  show b < H.n + S1.n
  rcases insF_some (insH_get' ho).2 hg hwf with ⟨a1, _⟩ | ⟨i, oi, rfl, hi, c2, rfl⟩
  · omega
  · have := h1 i (by simp [c2])
    unfold eta
    cases i.beq 0 <;> simp only [cond_true, cond_false] <;> omega
end Go.Ev
/- Memory told by a list of blocks; memory that comes of a run, held against one, by the kernel. -/
namespace Go.Ev
open Go
set_option linter.unusedVariables false
set_option linter.unusedSimpArgs false
set_option linter.constructorNameAsVariable false
noncomputable section
/-- A tree, by rows of values that are alike. -/
def pt1 (n : Nat) : Nat → SV → Tr SV → Tr SV := Nat.rec (motive := fun _ => Nat → SV → Tr SV → Tr SV) (fun _ _ t => t) (fun _ ih s v t => ih (Nat.succ s) v (t.put s (some v))) n
def pt (l : List (Nat × Nat × SV)) : Tr SV → Tr SV := List.rec (motive := fun _ => Tr SV → Tr SV) (fun t => t) (fun p _ ih t => ih (pt1 p.2.1 p.1 p.2.2 t)) l
def pt1K (n : Nat) : Nat → SV → Tr SV → (Tr SV → Bool) → Bool := Nat.rec (motive := fun _ => Nat → SV → Tr SV → (Tr SV → Bool) → Bool) (fun _ _ t K => K t) (fun _ ih s v t K => pP (pth s) (some v) t fun t => fN (Nat.succ s) fun s => ih s v t K) n
theorem pt1K_eq : ∀ (n s : Nat) (v : SV) (t : Tr SV) (K : Tr SV → Bool), pt1K n s v t K = K (pt1 n s v t) := by
  intro n
  induction n with
  | zero => intro s v t K; rfl
  | succ n ih =>
    intro s v t K
    show (pP (pth s) (some v) t fun t => fN (Nat.succ s) fun s => pt1K n s v t K) = _
    rw [pP_eq, fN_eq, ih]; rfl
def ptK (l : List (Nat × Nat × SV)) : Tr SV → (Tr SV → Bool) → Bool := List.rec (motive := fun _ => Tr SV → (Tr SV → Bool) → Bool) (fun t K => K t) (fun p _ ih t K => pt1K p.2.1 p.1 p.2.2 t fun t => ih t K) l
theorem ptK_eq : ∀ (l : List (Nat × Nat × SV)) (t : Tr SV) (K : Tr SV → Bool), ptK l t K = K (pt l t) := by
  intro l
  induction l with
  | nil => intro t K; rfl
  | cons p l ih =>
    intro t K
    show (pt1K p.2.1 p.1 p.2.2 t fun t => ptK l t K) = _
    rw [pt1K_eq, ih]; rfl
/-- A block, told: cells; or a great row with some of its cells. -/
inductive TB where
  | l (e : TypeId) (cs : List SV)
  | m (e : TypeId) (cs : List SV)
  | z (e : TypeId) (zs : List (Nat × SV)) (l : List (Nat × Nat × SV))
def TB.cells : TB → List SV
  | .l _ cs => cs
  | .m _ cs => cs
  | .z _ zs rs => (Cs.tr zs (pt rs .lf)).toL
def TB.e : TB → TypeId
  | .l e _ => e
  | .m e _ => e
  | .z e _ _ => e
def TB.ob (ρ : Nat → Nat) (b : TB) : Ob := ⟨b.cells.map (SV.inst ρ), b.e, false⟩
abbrev TBs := List (Option TB)
def obAt (ρ : Nat → Nat) (S : TBs) (b : Nat) : Option Ob := (S[b]?).bind fun x => x.map (TB.ob ρ)
/-- The memory that a list tells. -/
def tbH (S : TBs) (ρ : Nat → Nat) : Heap := ⟨full 15 (obAt ρ S), S.length⟩
theorem tbH_get {S : TBs} {ρ : Nat → Nat} {b : Nat} (h : b < 32767) : (tbH S ρ).get b = obAt ρ S b := full_get 15 (obAt ρ S) b (show b + 1 < 2 ^ 15 by omega)
theorem tbH_some {S : TBs} {ρ : Nat → Nat} {b : Nat} {o : Ob} (h : (tbH S ρ).get b = some o) : b < 32767 ∧ b < S.length ∧ ∃ tb, S[b]? = some (some tb) ∧ o = tb.ob ρ := by
  by_cases hb : b < 32767
  · rw [tbH_get hb] at h
    unfold obAt at h
    obtain ⟨x, h1, h2⟩ := Option.bind_eq_some_iff.1 h
    obtain ⟨tb, rfl, rfl⟩ := Option.map_eq_some_iff.1 h2
    exact ⟨hb, (List.getElem?_eq_some_iff.1 h1).1, tb, h1, rfl⟩
  · have e15 : (2 : Nat) ^ 15 = 32768 := rfl
    have e : (tbH S ρ).get b = none := full_none 15 (obAt ρ S) b (by omega)
    rw [e] at h; cases h
theorem tbH_wf (S : TBs) (ρ : Nat → Nat) : HWf (tbH S ρ) := fun b hb => by
  obtain ⟨o, ho⟩ := Option.isSome_iff_exists.1 hb
  exact (tbH_some ho).2.1
theorem tbH_wr {S : TBs} {ρ : Nat → Nat} {b : Nat} (h : ((tbH S ρ).get b).isSome) : (tbH S ρ).wr b := by
  obtain ⟨o, ho⟩ := Option.isSome_iff_exists.1 h
  obtain ⟨_, _, tb, _, rfl⟩ := tbH_some ho
  exact ⟨_, ho, rfl⟩
/-! Laid by the kernel -/
def lyK (S : TBs) : Nat → HT → (HT → Bool) → Bool := List.rec (motive := fun _ => Nat → HT → (HT → Bool) → Bool) (fun _ t K => K t)
  (fun x _ ih b t K => Option.rec (motive := fun _ => Bool) (fN (Nat.succ b) fun c => ih c t K)
    (fun tb => TB.rec (motive := fun _ => Bool) (fun e cs => mkC cs fun c => hpK b (some ⟨c, e, false⟩) t fun t => fN (Nat.succ b) fun c => ih c t K) (fun e cs => hpK b (some ⟨.ls cs, e, false⟩) t fun t => fN (Nat.succ b) fun c => ih c t K) (fun e zs l => ptK l .lf fun q => hpK b (some ⟨.tr zs q, e, false⟩) t fun t => fN (Nat.succ b) fun c => ih c t K) tb) x) S
theorem hAt_set {b i : Nat} {o : Option SOb} {t : HT} (hb : b < 32767) (hi : i < 32767) : hAt i (nSet b o 5 t) = if i = b then o else hAt i t := by
  unfold hAt
  have e5 : (8 : Nat) ^ 5 = 32768 := rfl
  rw [nAt_nSet, e5, Nat.mod_eq_of_lt (show i < 32768 by omega), Nat.mod_eq_of_lt (show b < 32768 by omega)]
theorem lyK_true : ∀ {S : TBs} {b : Nat} {t : HT} {K : HT → Bool}, lyK S b t K = true → ∃ t', K t' = true ∧ ∀ ρ i, i < 32767 → (hAt i t').map (SOb.inst ρ) = if b ≤ i ∧ i < b + S.length then (match (S[i - b]?).bind fun x => x.map (TB.ob ρ) with | some o => some o | none => (hAt i t).map (SOb.inst ρ)) else (hAt i t).map (SOb.inst ρ) := by
  intro S
  induction S with
  | nil => intro b t K h; exact ⟨t, h, fun ρ i hi => by rw [if_neg (by rw [List.length_nil]; omega)]⟩
  | cons x S ih =>
    intro b t K h
    have step : ∀ (o : SOb) (tb : TB), x = some tb → (∀ ρ, o.inst ρ = tb.ob ρ) → (hpK b (some o) t fun t => fN (Nat.succ b) fun c => lyK S c t K) = true → ∃ t', K t' = true ∧ ∀ ρ i, i < 32767 → (hAt i t').map (SOb.inst ρ) = if b ≤ i ∧ i < b + (x :: S).length then (match ((x :: S)[i - b]?).bind fun x => x.map (TB.ob ρ) with | some o => some o | none => (hAt i t).map (SOb.inst ρ)) else (hAt i t).map (SOb.inst ρ) := by
      intro o tb hx ho hs
      subst hx
      obtain ⟨hb, hs2⟩ := hpK_set hs
      rw [fN_eq] at hs2
      obtain ⟨t', h1, h2⟩ := ih hs2
      refine ⟨t', h1, fun ρ i hi => ?_⟩
      rw [h2 ρ i hi, hAt_set hb hi]
      by_cases hib : i = b
      · subst hib
        rw [if_neg (by omega), if_pos rfl, if_pos (by rw [List.length_cons]; omega), Nat.sub_self]
        simp only [List.getElem?_cons_zero, Option.bind_some, Option.map_some]
        rw [ho]
      · rw [if_neg hib]
        by_cases hc : b + 1 ≤ i ∧ i < b + 1 + S.length
        · rw [if_pos hc, if_pos (by rw [List.length_cons]; omega), show i - b = (i - (b + 1)) + 1 by omega, List.getElem?_cons_succ]
        · rw [if_neg hc, if_neg (by rw [List.length_cons]; omega)]
    cases x with
    | none =>
      have h : (fN (Nat.succ b) fun c => lyK S c t K) = true := h
      rw [fN_eq] at h
      obtain ⟨t', h1, h2⟩ := ih h
      refine ⟨t', h1, fun ρ i hi => ?_⟩
      rw [h2 ρ i hi]
      by_cases hib : i = b
      · subst hib
        rw [if_neg (by omega), if_pos (by rw [List.length_cons]; omega), Nat.sub_self]
        simp
      · by_cases hc : b + 1 ≤ i ∧ i < b + 1 + S.length
        · rw [if_pos hc, if_pos (by rw [List.length_cons]; omega), show i - b = (i - (b + 1)) + 1 by omega, List.getElem?_cons_succ]
        · rw [if_neg hc, if_neg (by rw [List.length_cons]; omega)]
    | some tb =>
      cases tb with
      | l e cs =>
        have h : (mkC cs fun c => hpK b (some ⟨c, e, false⟩) t fun t => fN (Nat.succ b) fun c => lyK S c t K) = true := h
        obtain ⟨c, hc, h⟩ := mkC_true h
        exact step ⟨c, e, false⟩ _ rfl (fun ρ => by unfold SOb.inst TB.ob; rw [hc]; rfl) h
      | m e cs => exact step ⟨.ls cs, e, false⟩ _ rfl (fun ρ => rfl) h
      | z e zs l =>
        have h : (ptK l .lf fun q => hpK b (some ⟨.tr zs q, e, false⟩) t fun t => fN (Nat.succ b) fun c => lyK S c t K) = true := h
        rw [ptK_eq] at h
        exact step ⟨.tr zs (pt l .lf), e, false⟩ _ rfl (fun ρ => rfl) h
def em0 : HT := nRep none 5
/-- The memory that a list tells, laid. -/
def bldT (S : TBs) (K : HT → Bool) : Bool := lyK S 0 em0 K
theorem bldT_true {S : TBs} {K : HT → Bool} (h : bldT S K = true) : ∃ t, K t = true ∧ ∀ ρ, instH ρ t S.length = tbH S ρ := by
  obtain ⟨t, h1, h2⟩ := lyK_true (S := S) (b := 0) (t := em0) h
  refine ⟨t, h1, fun ρ => ?_⟩
  unfold instH tbH
  congr 1
  refine full_congr 15 _ _ fun i hi => ?_
  have hi : i < 32767 := by
    have : (2 : Nat) ^ 15 = 32768 := rfl
    omega
  rw [h2 ρ i hi]
  have e0 : (hAt i em0).map (SOb.inst ρ) = none := by unfold hAt em0; rw [nAt_rep]; rfl
  unfold obAt
  by_cases hc : 0 ≤ i ∧ i < 0 + S.length
  · rw [if_pos hc, Nat.sub_zero, e0]
    cases (S[i]?).bind fun x => x.map (TB.ob ρ) <;> rfl
  · rw [if_neg hc, e0, List.getElem?_eq_none (by omega)]; rfl
/-! Values held against values -/
/-- A kind's number. -/
def ikN (k : IntKind) : Nat := IntKind.rec (motive := fun _ => Nat) 0 1 2 3 4 5 6 7 k
theorem ikN_inj {a b : IntKind} (h : ikN a = ikN b) : a = b := by cases a <;> cases b <;> first | rfl | cases h
/-- What is found of the list's words. -/
abbrev Sg := List (Nat × W)
def fdS (σ : Sg) (i : Nat) : Option W := List.rec (motive := fun _ => Option W) none (fun p _ ih => Bool.rec (motive := fun _ => Option W) ih (some p.2) (Nat.beq p.1 i)) σ
theorem fdS_some {i : Nat} {w : W} : ∀ {σ : Sg}, fdS σ i = some w → (i, w) ∈ σ := by
  intro σ
  induction σ with
  | nil => intro h; cases h
  | cons p σ ih =>
    intro h
    have h : (Bool.rec (motive := fun _ => Option W) (fdS σ i) (some p.2) (Nat.beq p.1 i) : Option W) = some w := h
    cases hb : Nat.beq p.1 i <;> rw [hb] at h
    · exact List.mem_cons_of_mem _ (ih h)
    · cases h
      rw [← Nat.eq_of_beq_eq_true hb]
      exact List.mem_cons_self
theorem fdS_none {i : Nat} : ∀ {σ : Sg}, fdS σ i = none → ∀ p ∈ σ, p.1 ≠ i := by
  intro σ
  induction σ with
  | nil => intro _ p hp; cases hp
  | cons q σ ih =>
    intro h p hp
    have h : (Bool.rec (motive := fun _ => Option W) (fdS σ i) (some q.2) (Nat.beq q.1 i) : Option W) = none := h
    cases hb : Nat.beq q.1 i <;> rw [hb] at h
    · rcases List.mem_cons.1 hp with rfl | hp
      · exact Nat.ne_of_beq_eq_false hb
      · exact ih h p hp
    · cases h
abbrev MK := Nat → List Nat → Sg → Bool
/-- A block's name held against the list's. -/
def nmK (b b' n : Nat) (θ : List Nat) (K : Nat → List Nat → Bool) : Bool :=
  ifK (Nat.blt b n) (nthK θ (Nat.sub (Nat.sub n 1) b) fun x => ifK (Nat.beq x b') (K n θ) false) (ifK (Nat.beq b n) (ifK (θ.all fun x => !(Nat.beq x b')) (fN (Nat.succ n) fun m => K m (b' :: θ)) false) false)
def nm (θ : List Nat) (b b' : Nat) : Prop := θ.reverse[b]? = some b'
theorem nm_app {θ p : List Nat} {b b' : Nat} (h : nm θ b b') : nm (p ++ θ) b b' := by
  unfold nm at h ⊢
  rw [List.reverse_append, List.getElem?_append_left (List.getElem?_eq_some_iff.1 h).1]
  exact h
structure MGd (θ : List Nat) (σ : Sg) : Prop where
  nd : θ.Nodup
  keys : (σ.map (·.1)).Nodup
def agree (ρ ρ' : Nat → Nat) (σ : Sg) : Prop := ∀ p ∈ σ, ρ' p.1 = evW ρ p.2
theorem nmK_true {b b' n : Nat} {θ : List Nat} {K : Nat → List Nat → Bool} (h : nmK b b' n θ K = true) (hn : n = θ.length) (hd : θ.Nodup) : ∃ p, (p ++ θ).Nodup ∧ K (p ++ θ).length (p ++ θ) = true ∧ nm (p ++ θ) b b' := by
  unfold nmK at h
  rcases ifK_true h with ⟨h1, h⟩ | ⟨_, h⟩
  · have h1 : b < n := Nat.le_of_ble_eq_true h1
    obtain ⟨x, h2, h'⟩ := nthK_true h
    obtain ⟨h3, h4⟩ := ifF_true h'
    clear h h'
    obtain rfl := Nat.eq_of_beq_eq_true h3
    refine ⟨[], hd, by rw [List.nil_append, ← hn]; exact h4, ?_⟩
    unfold nm
    have h2 : θ[n - 1 - b]? = some x := h2
    rw [List.nil_append, List.getElem?_reverse (by omega), ← hn]
    exact h2
  · obtain ⟨h1, h⟩ := ifF_true h
    obtain rfl := Nat.eq_of_beq_eq_true h1
    obtain ⟨h2, h⟩ := ifF_true h
    rw [fN_eq] at h
    refine ⟨[b'], ?_, by rw [List.singleton_append, List.length_cons, ← hn]; exact h, ?_⟩
    · rw [List.singleton_append, List.nodup_cons]
      refine ⟨fun hm => ?_, hd⟩
      have := List.all_eq_true.1 h2 b' hm
      rw [Nat.beq_refl] at this; cases this
    · unfold nm
      rw [List.singleton_append, List.reverse_cons, List.getElem?_append_right (by rw [List.length_reverse]; omega), List.length_reverse, hn, Nat.sub_self]; rfl
/-- Has a word no more than so many bits? -/
def ltO (G : List Asm) (w : W) (b : Nat) : Bool := match ltW G w (litW (Nat.pow 2 b)) with
  | some t => t
  | none => false
theorem ltO_true {ρ : Nat → Nat} {G : List Asm} (hG : ∀ a ∈ G, a.ok ρ) {w : W} {b : Nat} (h : ltO G w b = true) : evW ρ w < 2 ^ b := by
  unfold ltO at h
  split at h
  · rename_i t ht
    subst h
    have := of_decide_eq_true (ltW_spec hG ht)
    rw [litW_ev] at this
    exact this
  · cases h
/-- A word of the list's own, held against a word. -/
def vrK (G : List Asm) (i b : Nat) (w : W) (σ : Sg) (K : Sg → Bool) : Bool := ifK (ltO G w b) (Option.rec (motive := fun _ => Bool) (K ((i, w) :: σ)) (fun u => ifK (wEq u w) (K σ) false) (fdS σ i)) false
theorem vrK_true {ρ : Nat → Nat} {G : List Asm} (hG : ∀ a ∈ G, a.ok ρ) {i b : Nat} {w : W} {σ : Sg} {K : Sg → Bool} (h : vrK G i b w σ K = true) (hk : (σ.map (·.1)).Nodup) : ∃ p, ((p ++ σ).map (·.1)).Nodup ∧ K (p ++ σ) = true ∧ ∀ ρ', agree ρ ρ' (p ++ σ) → ρ' i % 2 ^ b = evW ρ w := by
  unfold vrK at h
  obtain ⟨h1, h⟩ := ifF_true h
  have hlt : evW ρ w % 2 ^ b = evW ρ w := Nat.mod_eq_of_lt (ltO_true hG h1)
  cases hf : fdS σ i with
  | none =>
    rw [hf] at h
    refine ⟨[(i, w)], ?_, h, fun ρ' ha => ?_⟩
    · rw [List.singleton_append, List.map_cons, List.nodup_cons]
      refine ⟨fun hm => ?_, hk⟩
      obtain ⟨p, hp, he⟩ := List.mem_map.1 hm
      exact fdS_none hf p hp he
    · rw [ha (i, w) List.mem_cons_self]; exact hlt
  | some u =>
    rw [hf] at h
    obtain ⟨h2, h3⟩ := ifF_true (a := wEq u w) h
    clear h
    obtain rfl := wEq_sound _ _ h2
    refine ⟨[], hk, h3, fun ρ' ha => ?_⟩
    rw [ha (i, u) (fdS_some hf)]; exact hlt
/-- A cell held against the list's. -/
def cmp1 (G : List Asm) (tv rv : SV) (n : Nat) (θ : List Nat) (σ : Sg) (K : MK) : Bool := match tv with
  | .n k a => (match rv with | .n k' a' => ifK (Nat.beq (ikN k) (ikN k')) (ifK (Nat.beq a a') (K n θ σ) false) false | _ => false)
  | .z k a => (match rv with | .z k' a' => ifK (Nat.beq (ikN k) (ikN k')) (ifK (Nat.beq a a') (K n θ σ) false) false | _ => false)
  | .w k x => (match x with
    | [.v i 0 b] => (match rv with
      | .n k' a => ifK (Nat.beq (ikN k) (ikN k')) (vrK G i b (litW a) σ fun σ => K n θ σ) false
      | .w k' w => ifK (Nat.beq (ikN k) (ikN k')) (vrK G i b w σ fun σ => K n θ σ) false
      | _ => false)
    | _ => false)
  | .t => (match rv with | .t => K n θ σ | _ => false)
  | .f => (match rv with | .f => K n θ σ | _ => false)
  | .np => (match rv with | .np => K n θ σ | _ => false)
  | .ns => (match rv with | .ns => K n θ σ | _ => false)
  | .nm => (match rv with | .nm => K n θ σ | _ => false)
  | .nf => (match rv with | .nf => K n θ σ | _ => false)
  | .p b o => (match rv with | .p b' o' => ifK (Nat.beq o o') (nmK b b' n θ fun n θ => K n θ σ) false | _ => false)
  | .sl b o l c => (match rv with | .sl b' o' l' c' => ifK (Nat.beq o o') (ifK (Nat.beq l l') (ifK (Nat.beq c c') (nmK b b' n θ fun n θ => K n θ σ) false) false) false | _ => false)
  | .m b => (match rv with | .m b' => nmK b b' n θ fun n θ => K n θ σ | _ => false)
  | _ => false
/-- What holding one against the other comes to. -/
def Cmp (ρ : Nat → Nat) (R : (Nat → Nat → Prop) → (Nat → Nat) → Prop) (θ : List Nat) (σ : Sg) (K : MK) : Prop :=
  ∃ p q, MGd (p ++ θ) (q ++ σ) ∧ K (p ++ θ).length (p ++ θ) (q ++ σ) = true ∧ ∀ ρ', agree ρ ρ' (q ++ σ) → R (nm (p ++ θ)) ρ'
theorem cmp1_true {ρ : Nat → Nat} {G : List Asm} (hG : ∀ a ∈ G, a.ok ρ) {tv rv : SV} {n : Nat} {θ : List Nat} {σ : Sg} {K : MK} (h : cmp1 G tv rv n θ σ K = true) (hn : n = θ.length) (hg : MGd θ σ) : Cmp ρ (fun r ρ' => Rn r (tv.inst ρ') (rv.inst ρ)) θ σ K := by
  have now : ∀ {v : Value}, plain v = true → (∀ ρ', tv.inst ρ' = v) → rv.inst ρ = v → K n θ σ = true → Cmp ρ (fun r ρ' => Rn r (tv.inst ρ') (rv.inst ρ)) θ σ K := fun {v} hp h1 h2 hk =>
    ⟨[], [], hg, by rw [List.nil_append, ← hn]; exact hk, fun ρ' _ => by show Rn _ (tv.inst ρ') (rv.inst ρ); rw [h1, h2]; exact .same hp⟩
  have name : ∀ {b b' : Nat}, (nmK b b' n θ fun n θ => K n θ σ) = true → (∀ (r : Nat → Nat → Prop) ρ', r b b' → Rn r (tv.inst ρ') (rv.inst ρ)) → Cmp ρ (fun r ρ' => Rn r (tv.inst ρ') (rv.inst ρ)) θ σ K := fun {b b'} h hr => by
    obtain ⟨p, h1, h2, h3⟩ := nmK_true h hn hg.nd
    exact ⟨p, [], ⟨h1, hg.keys⟩, h2, fun ρ' _ => hr _ ρ' h3⟩
  have var : ∀ {i b : Nat} {w : W} {k : IntKind}, (vrK G i b w σ fun σ => K n θ σ) = true → (∀ ρ', tv.inst ρ' = .int k (Int.ofNat (ρ' i % 2 ^ b))) → rv.inst ρ = .int k (Int.ofNat (evW ρ w)) → Cmp ρ (fun r ρ' => Rn r (tv.inst ρ') (rv.inst ρ)) θ σ K := fun {i b w k} h h1 h2 => by
    obtain ⟨q, g1, g2, g3⟩ := vrK_true hG h hg.keys
    refine ⟨[], q, ⟨hg.nd, g1⟩, by rw [List.nil_append, ← hn]; exact g2, fun ρ' ha => ?_⟩
    show Rn _ (tv.inst ρ') (rv.inst ρ)
    rw [h1, h2, g3 ρ' ha]; exact .same rfl
  unfold cmp1 at h
  split at h
  · split at h
    · rename_i k a _ k' a'
      obtain ⟨h1, ha⟩ := ifF_true h
      obtain ⟨h2, hb⟩ := ifF_true ha
      obtain rfl := ikN_inj (Nat.eq_of_beq_eq_true h1)
      obtain rfl := Nat.eq_of_beq_eq_true h2
      exact now (v := .int k (Int.ofNat a)) rfl (fun _ => rfl) rfl hb
    · cases h
  · split at h
    · rename_i k a _ k' a'
      obtain ⟨h1, ha⟩ := ifF_true h
      obtain ⟨h2, hb⟩ := ifF_true ha
      obtain rfl := ikN_inj (Nat.eq_of_beq_eq_true h1)
      obtain rfl := Nat.eq_of_beq_eq_true h2
      exact now (v := .int k (Int.negSucc a)) rfl (fun _ => rfl) rfl hb
    · cases h
  · split at h
    · rename_i k _ i b
      have hv : ∀ ρ', (SV.w k [.v i 0 b]).inst ρ' = .int k (Int.ofNat (ρ' i % 2 ^ b)) := fun ρ' => by simp [SV.inst, evW, Seg.val]
      split at h
      · rename_i k' a
        obtain ⟨h1, ha⟩ := ifF_true h
        obtain rfl := ikN_inj (Nat.eq_of_beq_eq_true h1)
        exact var ha hv (by rw [litW_ev]; rfl)
      · rename_i k' w
        obtain ⟨h1, ha⟩ := ifF_true h
        obtain rfl := ikN_inj (Nat.eq_of_beq_eq_true h1)
        exact var ha hv rfl
      · cases h
    · cases h
  · split at h
    · exact now (v := .bool true) rfl (fun _ => rfl) rfl h
    · cases h
  · split at h
    · exact now (v := .bool false) rfl (fun _ => rfl) rfl h
    · cases h
  · split at h
    · exact now (v := .pointer none) rfl (fun _ => rfl) rfl h
    · cases h
  · split at h
    · exact now (v := .slice none 0 0) rfl (fun _ => rfl) rfl h
    · cases h
  · split at h
    · exact now (v := .map none) rfl (fun _ => rfl) rfl h
    · cases h
  · split at h
    · exact now (v := .nilFunc) rfl (fun _ => rfl) rfl h
    · cases h
  · split at h
    · rename_i b o _ b' o'
      obtain ⟨h1, ha⟩ := ifF_true h
      obtain rfl := Nat.eq_of_beq_eq_true h1
      exact name ha fun r ρ' hr => .ptr hr
    · cases h
  · split at h
    · rename_i b o l c _ b' o' l' c'
      obtain ⟨h1, ha⟩ := ifF_true h
      obtain ⟨h2, hb⟩ := ifF_true ha
      obtain ⟨h3, hc⟩ := ifF_true hb
      obtain rfl := Nat.eq_of_beq_eq_true h1
      obtain rfl := Nat.eq_of_beq_eq_true h2
      obtain rfl := Nat.eq_of_beq_eq_true h3
      exact name hc fun r ρ' hr => .slice hr
    · cases h
  · split at h
    · exact name h fun r ρ' hr => .map hr
    · cases h
  · cases h
/-- One behind the other. -/
theorem Cmp.chain {ρ : Nat → Nat} {R R' : (Nat → Nat → Prop) → (Nat → Nat) → Prop} {θ : List Nat} {σ : Sg} {K K' : MK}
    (h : Cmp ρ R θ σ K) (hk : ∀ θ σ, MGd θ σ → K θ.length θ σ = true → Cmp ρ R' θ σ K')
    (hm : ∀ r q ρ', (∀ b b', r b b' → q b b') → R r ρ' → R q ρ') : Cmp ρ (fun r ρ' => R r ρ' ∧ R' r ρ') θ σ K' := by
  obtain ⟨p, q, h1, h2, h3⟩ := h
  obtain ⟨p', q', g1, g2, g3⟩ := hk _ _ h1 h2
  refine ⟨p' ++ p, q' ++ q, by rw [List.append_assoc, List.append_assoc]; exact g1, by rw [List.append_assoc, List.append_assoc]; exact g2, fun ρ' ha => ?_⟩
  rw [List.append_assoc] at ha ⊢
  refine ⟨hm _ _ ρ' (fun b b' hb => nm_app hb) (h3 ρ' fun x hx => ha x (List.mem_append_right _ hx)), g3 ρ' ha⟩
theorem Cmp.imp {ρ : Nat → Nat} {R R' : (Nat → Nat → Prop) → (Nat → Nat) → Prop} {θ : List Nat} {σ : Sg} {K : MK} (h : Cmp ρ R θ σ K) (hr : ∀ r ρ', R r ρ' → R' r ρ') : Cmp ρ R' θ σ K := by
  obtain ⟨p, q, h1, h2, h3⟩ := h
  exact ⟨p, q, h1, h2, fun ρ' ha => hr _ _ (h3 ρ' ha)⟩
/-- Cells of a struct. -/
def cmpA (G : List Asm) (tl : List SV) : List SV → Nat → List Nat → Sg → MK → Bool := List.rec (motive := fun _ => List SV → Nat → List Nat → Sg → MK → Bool)
  (fun rl n θ σ K => List.rec (motive := fun _ => Bool) (K n θ σ) (fun _ _ _ => false) rl)
  (fun tv _ ih rl n θ σ K => List.rec (motive := fun _ => Bool) false (fun rv r _ => cmp1 G tv rv n θ σ fun n θ σ => ih r n θ σ K) rl) tl
theorem cmpA_true {ρ : Nat → Nat} {G : List Asm} (hG : ∀ a ∈ G, a.ok ρ) : ∀ {tl rl : List SV} {n : Nat} {θ : List Nat} {σ : Sg} {K : MK}, cmpA G tl rl n θ σ K = true → n = θ.length → MGd θ σ → Cmp ρ (fun r ρ' => RnL r (tl.map (SV.inst ρ')) (rl.map (SV.inst ρ))) θ σ K := by
  intro tl
  induction tl with
  | nil =>
    intro rl n θ σ K h hn hg
    cases rl with
    | nil => exact ⟨[], [], hg, by rw [List.nil_append, ← hn]; exact h, fun ρ' _ => RnL.nil _⟩
    | cons a r => cases h
  | cons tv tl ih =>
    intro rl n θ σ K h hn hg
    cases rl with
    | nil => cases h
    | cons rv rl =>
      have h : cmp1 G tv rv n θ σ (fun n θ σ => cmpA G tl rl n θ σ K) = true := h
      exact ((cmp1_true hG h hn hg).chain (fun θ σ hg hk => ih hk rfl hg) fun r q ρ' hq hr => hr.mono hq).imp fun r ρ' h => RnL.cons h.1 h.2
def cmpV (G : List Asm) (tv rv : SV) (n : Nat) (θ : List Nat) (σ : Sg) (K : MK) : Bool := match tv with
  | .ag tl => (match rv with | .ag rl => cmpA G tl rl n θ σ K | _ => false)
  | tv => cmp1 G tv rv n θ σ K
theorem cmpV_true {ρ : Nat → Nat} {G : List Asm} (hG : ∀ a ∈ G, a.ok ρ) {tv rv : SV} {n : Nat} {θ : List Nat} {σ : Sg} {K : MK} (h : cmpV G tv rv n θ σ K = true) (hn : n = θ.length) (hg : MGd θ σ) : Cmp ρ (fun r ρ' => Rn r (tv.inst ρ') (rv.inst ρ)) θ σ K := by
  unfold cmpV at h
  split at h
  · split at h
    · rename_i tl _ rl
      refine (cmpA_true hG h hn hg).imp fun r ρ' h => ?_
      rw [SV.inst, SV.inst, instL_map, instL_map]
      exact .agg (by simpa using h.1) fun i h1 h2 => h.2 i _ _ (List.getElem?_eq_getElem (by simpa using h1)) (List.getElem?_eq_getElem (by simpa using h2))
    · cases h
  · exact cmp1_true hG h hn hg
/-! Blocks -/
def lenIs (c : Cs) (n : Nat) : Bool := Cs.rec (motive := fun _ => Bool) (fun l => cntK l 0 fun k => Nat.beq k n) (fun _ _ => false) (fun m _ => Nat.beq m n) c
theorem lenIs_true {c : Cs} {n : Nat} (h : lenIs c n = true) : c.toL.length = n := by
  cases c with
  | ls l =>
    have h : cntK l 0 (fun k => Nat.beq k n) = true := h
    rw [cntK_eq, Nat.zero_add] at h
    exact Nat.eq_of_beq_eq_true h
  | tr zs t => cases h
  | a m x => rw [toL_a_len]; exact Nat.eq_of_beq_eq_true h
def cmpL (G : List Asm) (tl : List SV) (c : Cs) : Nat → Nat → List Nat → Sg → MK → Bool := List.rec (motive := fun _ => Nat → Nat → List Nat → Sg → MK → Bool)
  (fun i n θ σ K => ifK (lenIs c i) (K n θ σ) false)
  (fun tv _ ih i n θ σ K => cgK c i fun rv => cmpV G tv rv n θ σ fun n θ σ => fN (Nat.succ i) fun j => ih j n θ σ K) tl
theorem cmpL_true {ρ : Nat → Nat} {G : List Asm} (hG : ∀ a ∈ G, a.ok ρ) {c : Cs} : ∀ {tl : List SV} {i n : Nat} {θ : List Nat} {σ : Sg} {K : MK}, cmpL G tl c i n θ σ K = true → n = θ.length → MGd θ σ → Cmp ρ (fun r ρ' => RnL r (tl.map (SV.inst ρ')) ((c.toL.drop i).map (SV.inst ρ))) θ σ K := by
  intro tl
  induction tl with
  | nil =>
    intro i n θ σ K h hn hg
    obtain ⟨h1, h⟩ := ifF_true h
    have := lenIs_true h1
    refine ⟨[], [], hg, by rw [List.nil_append, ← hn]; exact h, fun ρ' _ => ?_⟩
    rw [List.drop_eq_nil_of_le (by omega)]
    exact RnL.nil _
  | cons tv tl ih =>
    intro i n θ σ K h hn hg
    have h : (cgK c i fun rv => cmpV G tv rv n θ σ fun n θ σ => fN (Nat.succ i) fun j => cmpL G tl c j n θ σ K) = true := h
    obtain ⟨rv, h1, h⟩ := cgK_true h
    obtain ⟨hi, he⟩ := List.getElem?_eq_some_iff.1 h1
    refine ((cmpV_true hG h hn hg).chain (R' := fun r ρ' => RnL r (tl.map (SV.inst ρ')) ((c.toL.drop (i + 1)).map (SV.inst ρ))) (fun θ σ hg hk => ih (by rw [fN_eq] at hk; exact hk) rfl hg) fun r q ρ' hq hr => hr.mono hq).imp fun r ρ' h => ?_
    rw [List.drop_eq_getElem_cons hi, he]
    exact RnL.cons h.1 h.2
/-- Great rows: the cells that were laid. -/
def cmpO (G : List Asm) (tv rv : Option SV) (n : Nat) (θ : List Nat) (σ : Sg) (K : MK) : Bool := Option.rec (motive := fun _ => Bool) (Option.rec (motive := fun _ => Bool) (K n θ σ) (fun _ => false) rv) (fun t => Option.rec (motive := fun _ => Bool) false (fun r => cmp1 G t r n θ σ K) rv) tv
inductive OpRn (r : Nat → Nat → Prop) (ρ' ρ : Nat → Nat) : Option SV → Option SV → Prop where
  | no : OpRn r ρ' ρ none none
  | yes {t q : SV} (h : Rn r (t.inst ρ') (q.inst ρ)) : OpRn r ρ' ρ (some t) (some q)
theorem OpRn.mono {r q : Nat → Nat → Prop} {ρ' ρ : Nat → Nat} (hq : ∀ b b', r b b' → q b b') {a b : Option SV} (h : OpRn r ρ' ρ a b) : OpRn q ρ' ρ a b := by
  cases h with
  | no => exact .no
  | yes h => exact .yes (h.mono hq)
theorem cmpO_true {ρ : Nat → Nat} {G : List Asm} (hG : ∀ a ∈ G, a.ok ρ) {tv rv : Option SV} {n : Nat} {θ : List Nat} {σ : Sg} {K : MK} (h : cmpO G tv rv n θ σ K = true) (hn : n = θ.length) (hg : MGd θ σ) : Cmp ρ (fun r ρ' => OpRn r ρ' ρ tv rv) θ σ K := by
  cases tv with
  | none =>
    cases rv with
    | none => exact ⟨[], [], hg, by rw [List.nil_append, ← hn]; exact h, fun ρ' _ => .no⟩
    | some _ => cases h
  | some t =>
    cases rv with
    | none => cases h
    | some q => exact (cmp1_true hG (tv := t) (rv := q) h hn hg).imp fun r ρ' h => .yes h
def cmpT (G : List Asm) (t : Tr SV) : Tr SV → Nat → List Nat → Sg → MK → Bool := Tr.rec (motive := fun _ => Tr SV → Nat → List Nat → Sg → MK → Bool)
  (fun q n θ σ K => Tr.rec (motive := fun _ => Bool) (K n θ σ) (fun _ _ _ _ _ => false) q)
  (fun _ v _ ihl ihr q n θ σ K => Tr.rec (motive := fun _ => Bool) false (fun l x r _ _ => ihl l n θ σ fun n θ σ => cmpO G v x n θ σ fun n θ σ => ihr r n θ σ K) q) t
theorem cmpT_true {ρ : Nat → Nat} {G : List Asm} (hG : ∀ a ∈ G, a.ok ρ) : ∀ {t q : Tr SV} {n : Nat} {θ : List Nat} {σ : Sg} {K : MK}, cmpT G t q n θ σ K = true → n = θ.length → MGd θ σ → Cmp ρ (fun r ρ' => ∀ i, OpRn r ρ' ρ (t.get i) (q.get i)) θ σ K := by
  intro t
  induction t with
  | lf =>
    intro q n θ σ K h hn hg
    cases q with
    | lf => exact ⟨[], [], hg, by rw [List.nil_append, ← hn]; exact h, fun ρ' _ i => .no⟩
    | nd l v r => cases h
  | nd l v r ihl ihr =>
    intro q n θ σ K h hn hg
    cases q with
    | lf => cases h
    | nd l' v' r' =>
      have h : cmpT G l l' n θ σ (fun n θ σ => cmpO G v v' n θ σ fun n θ σ => cmpT G r r' n θ σ K) = true := h
      refine ((ihl h hn hg).chain (K' := K) (R' := fun q ρ' => OpRn q ρ' ρ v v' ∧ ∀ i, OpRn q ρ' ρ (r.get i) (r'.get i)) (fun θ σ hg hk => (cmpO_true hG hk rfl hg).chain (fun θ σ hg hk => ihr hk rfl hg) fun r q ρ' hq hr => hr.mono hq) fun r q ρ' hq hr i => (hr i).mono hq).imp fun q ρ' h i => ?_
      obtain ⟨h1, h2, h3⟩ := h
      cases i with
      | zero => exact h2
      | succ k =>
        simp only [Tr.get]
        cases (k % 2).beq 0
        · exact h3 (k / 2)
        · exact h1 (k / 2)
def isNum (v : SV) : Bool := match v with | .n _ _ => true | _ => false
def numEq (p q : SV) : Bool := match p with
  | .n k a => (match q with | .n k' a' => ifK (Nat.beq (ikN k) (ikN k')) (Nat.beq a a') false | _ => false)
  | _ => false
theorem numEq_true {p q : SV} (h : numEq p q = true) : p = q := by
  unfold numEq at h
  split at h
  · split at h
    · obtain ⟨h1, h2⟩ := ifF_true h
      rw [ikN_inj (Nat.eq_of_beq_eq_true h1), Nat.eq_of_beq_eq_true h2]
    · cases h
  · cases h
def zsEq (a : List (Nat × SV)) : List (Nat × SV) → Bool := List.rec (motive := fun _ => List (Nat × SV) → Bool) (fun b => List.rec (motive := fun _ => Bool) true (fun _ _ _ => false) b)
  (fun p _ ih b => List.rec (motive := fun _ => Bool) false (fun q r _ => ifK (Nat.beq p.1 q.1) (ifK (numEq p.2 q.2) (ih r) false) false) b) a
theorem zsEq_true : ∀ {a b : List (Nat × SV)}, zsEq a b = true → a = b := by
  intro a
  induction a with
  | nil =>
    intro b h
    cases b with
    | nil => rfl
    | cons q r => cases h
  | cons p a ih =>
    intro b h
    cases b with
    | nil => cases h
    | cons q r =>
      obtain ⟨h1, h2⟩ := ifF_true (a := Nat.beq p.1 q.1) (b := ifK (numEq p.2 q.2) (zsEq a r) false) h
      obtain ⟨h3, h4⟩ := ifF_true h2
      rw [ih h4, show p = q from Prod.ext (Nat.eq_of_beq_eq_true h1) (numEq_true h3)]
def cmpB (G : List Asm) (tb : TB) (c : Cs) (n : Nat) (θ : List Nat) (σ : Sg) (K : MK) : Bool := match tb with
  | .l _ tl => cmpL G tl c 0 n θ σ K
  | .m _ tl => cmpL G tl c 0 n θ σ K
  | .z _ zs l => (match c with
    | .tr zs' q => ifK (zs.all fun p => isNum p.2) (ifK (zsEq zs zs') (ptK l .lf fun t => cmpT G t q n θ σ K) false) false
    | _ => false)
theorem cmpB_true {ρ : Nat → Nat} {G : List Asm} (hG : ∀ a ∈ G, a.ok ρ) {tb : TB} {c : Cs} {n : Nat} {θ : List Nat} {σ : Sg} {K : MK} (h : cmpB G tb c n θ σ K = true) (hn : n = θ.length) (hg : MGd θ σ) : Cmp ρ (fun r ρ' => RnL r (tb.cells.map (SV.inst ρ')) (c.toL.map (SV.inst ρ))) θ σ K := by
  unfold cmpB at h
  split at h
  · exact (cmpL_true hG h hn hg).imp fun r ρ' h => by rw [List.drop_zero] at h; exact h
  · exact (cmpL_true hG h hn hg).imp fun r ρ' h => by rw [List.drop_zero] at h; exact h
  · rename_i e0 zs l
    generalize ht0 : pt l .lf = t
    split at h
    · rename_i zs' q
      obtain ⟨h1, ha⟩ := ifF_true h
      obtain ⟨h2, hb⟩ := ifF_true ha
      have hz := zsEq_true h2
      subst hz
      rw [ptK_eq, ht0] at hb
      refine (cmpT_true hG hb hn hg).imp fun r ρ' h => ?_
      have hcs : (TB.z e0 zs l).cells = (Cs.tr zs t).toL := by rw [← ht0]; rfl
      have hl : (TB.z e0 zs l).cells.length = (Cs.tr zs q).toL.length := by
        rw [hcs, toL_len, toL_len]
      refine ⟨by rw [List.length_map, List.length_map]; exact hl, fun i x y hx hy => ?_⟩
      rw [List.getElem?_map] at hx hy
      have e1 : (TB.z e0 zs l).cells[i]? = ((baseL zs)[i]?).map fun d => (t.get i).getD d := by
        rw [hcs]
        simp only [Cs.toL, List.getElem?_mapIdx]
      have e2 : (Cs.tr zs q).toL[i]? = ((baseL zs)[i]?).map fun d => (q.get i).getD d := by simp only [Cs.toL, List.getElem?_mapIdx]
      rw [e1] at hx
      rw [e2] at hy
      cases hb : (baseL zs)[i]? with
      | none => rw [hb] at hx; cases hx
      | some d =>
        rw [hb] at hx hy
        simp only [Option.map_some, Option.some.injEq] at hx hy
        subst hx hy
        have hd : ∃ k a, d = .n k a := by
          have hm := List.mem_of_getElem? hb
          unfold baseL at hm
          obtain ⟨p, hp, hm⟩ := List.mem_flatMap.1 hm
          rw [List.eq_of_mem_replicate hm]
          have := List.all_eq_true.1 h1 p hp
          unfold isNum at this
          split at this
          · exact ⟨_, _, by assumption⟩
          · cases this
        obtain ⟨k, a, rfl⟩ := hd
        have := h i
        cases ht : t.get i with
        | none =>
          rw [ht] at this
          cases hq : q.get i with
          | none => exact .same rfl
          | some u => rw [hq] at this; cases this
        | some u =>
          rw [ht] at this
          cases hq : q.get i with
          | none => rw [hq] at this; cases this
          | some u' => rw [hq] at this; cases this with | yes h => exact h
    · cases h
/-! Memory -/
def mtK (G : List Asm) (t : HT) (S : TBs) : Nat → Nat → List Nat → Sg → (List Nat → Sg → Bool) → Bool := List.rec (motive := fun _ => Nat → Nat → List Nat → Sg → (List Nat → Sg → Bool) → Bool) (fun b n θ σ K => ifK (Nat.beq n b) (K θ σ) false)
  (fun x _ ih b n θ σ K => ifK (Nat.blt b n) (Option.rec (motive := fun _ => Bool) (fN (Nat.succ b) fun c => ih c n θ σ K)
    (fun tb => nthK θ (Nat.sub (Nat.sub n 1) b) fun x => obK x t fun c e r => ifK (Nat.beq tb.e e) (Bool.rec (motive := fun _ => Bool) (cmpB G tb c n θ σ fun n θ σ => fN (Nat.succ b) fun c => ih c n θ σ K) false r) false) x) false) S
theorem mtK_true {ρ : Nat → Nat} {G : List Asm} (hG : ∀ a ∈ G, a.ok ρ) {t : HT} {m : Nat} : ∀ {S : TBs} {b n : Nat} {θ : List Nat} {σ : Sg} {K : List Nat → Sg → Bool}, mtK G t S b n θ σ K = true → n = θ.length → MGd θ σ →
    ∃ p q, MGd (p ++ θ) (q ++ σ) ∧ (p ++ θ).length = b + S.length ∧ K (p ++ θ) (q ++ σ) = true ∧ ∀ ρ', agree ρ ρ' (q ++ σ) → ∀ i tb, S[i]? = some (some tb) → ∃ b' o', nm (p ++ θ) (b + i) b' ∧ (instH ρ t m).get b' = some o' ∧ ObRn (nm (p ++ θ)) (tb.ob ρ') o' := by
  intro S
  induction S with
  | nil =>
    intro b n θ σ K h hn hg
    obtain ⟨h1, h⟩ := ifF_true (a := Nat.beq n b) h
    exact ⟨[], [], hg, by rw [List.nil_append, ← hn]; exact Nat.eq_of_beq_eq_true h1, h, fun ρ' _ i tb hi => by cases hi⟩
  | cons x S ih =>
    intro b n θ σ K h hn hg
    obtain ⟨h1, h⟩ := ifF_true (a := Nat.blt b n) h
    have h1 : b < n := Nat.le_of_ble_eq_true h1
    cases x with
    | none =>
      have h : (fN (Nat.succ b) fun c => mtK G t S c n θ σ K) = true := h
      rw [fN_eq] at h
      obtain ⟨p, q, g1, g2, g3, g4⟩ := ih h hn hg
      refine ⟨p, q, g1, by rw [g2, List.length_cons]; omega, g3, fun ρ' ha i tb hi => ?_⟩
      cases i with
      | zero => cases hi
      | succ i =>
        obtain ⟨b', o', k⟩ := g4 ρ' ha i tb (by simpa using hi)
        exact ⟨b', o', by rw [show b + (i + 1) = b + 1 + i by omega]; exact k⟩
    | some tb =>
      have h : (nthK θ (n - 1 - b) fun x => obK x t fun c e r => ifK (Nat.beq tb.e e) (Bool.rec (motive := fun _ => Bool) (cmpB G tb c n θ σ fun n θ σ => fN (Nat.succ b) fun c => mtK G t S c n θ σ K) false r) false) = true := h
      obtain ⟨x, h2, h⟩ := nthK_true h
      obtain ⟨c, e, r, h3, h⟩ := obK_true h
      obtain ⟨h4, h⟩ := ifF_true h
      have h4 := Nat.eq_of_beq_eq_true h4
      cases r with
      | true => cases h
      | false =>
        obtain ⟨p, q, g1, g2, g3⟩ := cmpB_true hG h hn hg
        have g2 : mtK G t S (Nat.succ b) (p ++ θ).length (p ++ θ) (q ++ σ) K = true := g2
        obtain ⟨p', q', k1, k2, k3, k4⟩ := ih g2 rfl g1
        refine ⟨p' ++ p, q' ++ q, by rw [List.append_assoc, List.append_assoc]; exact k1, by rw [List.append_assoc, k2, List.length_cons]; omega, by rw [List.append_assoc, List.append_assoc]; exact k3, fun ρ' ha i tb' hi => ?_⟩
        rw [List.append_assoc] at ha ⊢
        cases i with
        | zero =>
          simp only [List.getElem?_cons_zero, Option.some.injEq] at hi
          subst hi
          refine ⟨x, _, ?_, h3 ρ m, ⟨h4, rfl, (g3 ρ' fun z hz => ha z (List.mem_append_right _ hz)).mono fun b b' hb => nm_app hb⟩⟩
          have : nm θ b x := by
            unfold nm
            rw [List.getElem?_reverse (by omega), ← hn]
            exact h2
          exact nm_app (nm_app this)
        | succ i =>
          obtain ⟨b', o', k⟩ := k4 ρ' ha i tb' (by simpa using hi)
          exact ⟨b', o', by rw [show b + (i + 1) = b + 1 + i by omega]; exact k⟩
theorem nodup_at {l : List Nat} (h : l.Nodup) : ∀ {i j c : Nat}, l[i]? = some c → l[j]? = some c → i = j := by
  induction l with
  | nil => intro i j c hi; cases hi
  | cons x l ih =>
    intro i j c hi hj
    rw [List.nodup_cons] at h
    cases i with
    | zero =>
      cases j with
      | zero => rfl
      | succ j =>
        simp only [List.getElem?_cons_zero, Option.some.injEq] at hi
        subst hi
        exact absurd (List.mem_of_getElem? (by simpa using hj)) h.1
    | succ i =>
      cases j with
      | zero =>
        simp only [List.getElem?_cons_zero, Option.some.injEq] at hj
        subst hj
        exact absurd (List.mem_of_getElem? (by simpa using hi)) h.1
      | succ j =>
        have := ih h.2 (i := i) (j := j) (c := c) (by simpa using hi) (by simpa using hj)
        omega
/-- Memory is what a list tells, from a block on. -/
def mtT (G : List Asm) (t : HT) (S : TBs) (g : Nat) (K : List Nat → Sg → Bool) : Bool := mtK G t S 0 1 [g] [] K
theorem mtT_true {ρ : Nat → Nat} {G : List Asm} (hG : ∀ a ∈ G, a.ok ρ) {t : HT} (m : Nat) {S : TBs} {g : Nat} {K : List Nat → Sg → Bool} (h : mtT G t S g K = true) : ∃ θ σ, MGd θ σ ∧ θ.length = S.length ∧ K θ σ = true ∧ nm θ 0 g ∧ ∀ ρ', agree ρ ρ' σ → Emb (fun b => θ.reverse[b]?) (tbH S ρ') (instH ρ t m) := by
  obtain ⟨p, q, h1, h2, h3, h4⟩ := mtK_true hG (m := m) h rfl ⟨by simp, by simp⟩
  refine ⟨p ++ [g], q ++ [], h1, by rw [h2]; omega, h3, nm_app rfl, fun ρ' ha => ⟨fun b b' hb => ?_, fun a b c ha hb => ?_, fun b o ho => ?_⟩⟩
  · have := (List.getElem?_eq_some_iff.1 hb).1
    rw [List.length_reverse, h2] at this
    show b < S.length
    omega
  · have ha1 := (List.getElem?_eq_some_iff.1 ha).1
    have hb1 := (List.getElem?_eq_some_iff.1 hb).1
    rw [List.length_reverse] at ha1 hb1
    have ha : (p ++ [g]).reverse[a]? = some c := ha
    have hb : (p ++ [g]).reverse[b]? = some c := hb
    rw [List.getElem?_reverse ha1] at ha
    rw [List.getElem?_reverse hb1] at hb
    have := nodup_at h1.nd ha hb
    omega
  · obtain ⟨_, _, tb, h5, rfl⟩ := tbH_some ho
    obtain ⟨b', o', k1, k2, k3⟩ := h4 ρ' ha b tb h5
    rw [Nat.zero_add] at k1
    exact ⟨b', o', k1, k2, k3⟩
/-- Words that are found as they were thought to be. -/
def exK (X : Sg) (σ : Sg) : Bool := X.all fun p => match fdS σ p.1 with | some w => wEq p.2 w | none => false
theorem exK_true {X σ : Sg} (h : exK X σ = true) : ∀ p ∈ X, p ∈ σ := fun p hp => by
  have := List.all_eq_true.1 h p hp
  split at this
  · rename_i w hw
    have h1 := fdS_some hw
    rw [← wEq_sound _ _ this] at h1
    exact h1
  · cases this
/-- No word is found beside those that were thought of. -/
def allK (X : Sg) (σ : Sg) : Bool := σ.all fun p => match fdS X p.1 with | some w => wEq w p.2 | none => false
theorem allK_true {X σ : Sg} (h : allK X σ = true) : ∀ p ∈ σ, p ∈ X := fun p hp => by
  have := List.all_eq_true.1 h p hp
  split at this
  · rename_i w hw
    have h1 := fdS_some hw
    rw [wEq_sound _ _ this] at h1
    exact h1
  · cases this
/-- What the list's words are. -/
def valS (ρ : Nat → Nat) (σ : Sg) (i : Nat) : Nat := match fdS σ i with | some w => evW ρ w | none => 0
/-! A call, from memory to memory -/
/-- A call on the memory that a list tells comes to memory that another tells. -/
def piece (E : Env) (f : FuncId) (args : List SV) (S S' : TBs) (X : Sg) (vc : SV → Bool) : Bool :=
  bldT S fun t => callN E 100 f args t S.length fun v t' _ => ifK (vc v) (mtT E.G t' S' 0 fun _ σ => allK X σ) false
theorem piece_call {ρ : Nat → Nat} {E : Env} (hE : EnvOk ρ E) {f : FuncId} {args : List SV} {S S' : TBs} {X : Sg} {vc : SV → Bool} (h : piece E f args S S' X vc = true) :
    ACall E.P E.T f ⟨instL ρ args⟩ (tbH S ρ) fun v H' => (∃ s, v = s.inst ρ ∧ vc s = true) ∧ ∃ θ, θ 0 = some 0 ∧ ∀ ρ', (∀ p ∈ X, ρ' p.1 = evW ρ p.2) → Emb θ (tbH S' ρ') H' := by
  obtain ⟨t, h, ht⟩ := bldT_true h
  have := run_call hE 100 h (R := fun v H' => (∃ s, v = s.inst ρ ∧ vc s = true) ∧ ∃ θ, θ 0 = some 0 ∧ ∀ ρ', (∀ p ∈ X, ρ' p.1 = evW ρ p.2) → Emb θ (tbH S' ρ') H') fun v t' m' hk => by
    obtain ⟨h1, hk⟩ := ifF_true hk
    obtain ⟨θ, σ, g1, g2, g3, g4, g5⟩ := mtT_true hE.G m' hk
    exact ⟨⟨v, rfl, h1⟩, _, g4, fun ρ' hX => g5 ρ' fun p hp => hX p (allK_true g3 p hp)⟩
  rw [ht] at this
  exact this
end
end Go.Ev
/- Regions whose slots are known in part alone. -/
namespace Go.Ev
open Go
set_option linter.unusedVariables false
set_option linter.unusedSimpArgs false
/-- The slots that are known are the model's. -/
def TmP (m : Map) (tm : Tr Value) (arr : Array Value) : Prop := ∀ t v, tm.get t = some v → VR m v (arr.getD t undef)
theorem TmP.mono {m m' : Map} (hm : m.le m') {tm : Tr Value} {arr : Array Value} (h : TmP m tm arr) : TmP m' tm arr := fun t v ht => (h t v ht).mono hm
/-- Are all slots that an operation looks at among these? -/
def knX (L : List Nat) (x : Operand) : Bool := match x with
  | .tmp t => L.contains t
  | _ => true
def knG (ops : Array Oper) (L : List Nat) (o : Oper) : Bool := match o.guard with
  | none => true
  | some (g, _) => match (ops[g]?).bind (·.dst) with
    | some d => L.contains d
    | none => true
def addL (L : List Nat) (d : Option Tmp) : List Nat := match d with
  | some d => d :: L
  | none => L
def knL (ops : Array Oper) : List Oper → List Nat → Bool
  | [], _ => true
  | o :: l, L => (o.op.operands.toList.all (knX L) && knG ops L o) && knL ops l (addL L o.dst)
section
variable {P : Program} {T : Tab} {callf : FuncId → Array Value → Heap → Option (Value × Heap)}
theorem dput_part {m : Map} {n : Nat} {tm tm' : Tr Value} {a : Act} {dst : Option Tmp} {v v' : Value} (h : dput n tm dst v = some tm') (hn : a.tmps.size = n) (ht : TmP m tm a.tmps) (hv : VR m v v') :
    TmP m tm' (a.put dst v').tmps ∧ (a.put dst v').tmps.size = n ∧ (a.put dst v').defers = a.defers := by
  unfold dput at h
  cases dst with
  | none => cases h; exact ⟨ht, hn, rfl⟩
  | some d =>
    simp only at h
    cases hd : d.blt n
    · rw [hd] at h; cases h
    · rw [hd] at h
      cases h
      have hlt : d < a.tmps.size := by rw [hn]; simpa [Nat.blt_eq] using hd
      refine ⟨fun t u hu => ?_, by simp [Act.put, hn], rfl⟩
      rw [Tr.get_put] at hu
      simp only [Act.put, Array.getD_eq_getD_getElem?, Array.getElem?_setIfInBounds]
      by_cases e : d = t
      · subst e
        rw [if_pos rfl] at hu
        cases hu
        simp [hlt, hv]
      · rw [if_neg (Ne.symm e)] at hu
        rw [if_neg e]
        have := ht t u hu
        simpa [Array.getD_eq_getD_getElem?] using this
theorem evOps_part [Bs] (hT : TabOk P T) (hF : FnsOk P T) (hC : CallOk P callf) {n : Nat} {ops : Array Oper} {Q : Exit → Act → World → Prop} (hg : CallGrows callf) :
    ∀ (l : List Oper) (L : List Nat) (s s' : St) (m : Map) (a : Act) (w : World), (∀ o ∈ l, boxOk P o) → knL ops l L = true → (∀ d ∈ L, (s.tm.get d).isSome) → evOps P T n callf ops l s = some s' → HWf s.H → TmP m s.tm a.tmps → a.tmps.size = n → Rep P m s.H w →
      (∀ a' w' m', TmP m' s'.tm a'.tmps → a'.tmps.size = n → a'.defers = a.defers → Rep P m' s'.H w' → Fr m s.H w m' s'.H w' → Q .normal a' w') → wpList P ops Q l a w := by
  intro l
  induction l with
  | nil =>
    intro L s s' m a w _ _ _ h _ ht hn hr hq
    simp only [evOps] at h
    cases h
    exact hq a w m ht hn rfl hr (Fr.refl _ _ _)
  | cons o l ih =>
    intro L s s' m a w hb hk hL h hwf ht hn hr hq
    simp only [evOps] at h
    simp only [knL, Bool.and_eq_true] at hk
    split at h
    · rename_i s1 h1
      obtain ⟨v, ho, hd⟩ := step1_inv P T callf h1
      have hop : OpRel m s.tm a o.op.operands.toList := fun x hx v hv => by
        have hkx := List.all_eq_true.1 hk.1.1 x hx
        cases x with
        | tmp t =>
          simp only [knX, List.contains_iff_mem] at hkx
          obtain ⟨u, hu⟩ := Option.isSome_iff_exists.1 (hL t hkx)
          simp only [aeval, hu, Option.getD_some] at hv
          cases hv
          exact ht t v hu
        | const c =>
          simp only [aeval] at hv
          cases hc : closed c
          · rw [hc] at hv; cases hv
          · rw [hc] at hv; cases hv; exact VR.of_closed hc
        | func f => simp only [aeval] at hv; cases hv; exact VR.of_closed rfl
        | global g => simp only [aeval] at hv; cases hv
      have hw : Region.wanted o (yielded ops a.tmps) = awanted ops s.tm o := awanted_eq fun g want hg d hd => by
        have hkg := hk.1.2
        unfold knG at hkg
        rw [hg] at hkg
        simp only [hd, List.contains_iff_mem] at hkg
        obtain ⟨u, hu⟩ := Option.isSome_iff_exists.1 (hL d hkg)
        rw [hu]
        exact ht d u hu
      have := out_sound (K := wpList P ops Q l) (Q := Q) hT hF hC (hb o (by simp)) ho hop hw hr (fun r H1 he => (aop_grows he).2 hwf) fun v' w' m' hv hr' hf => by
        obtain ⟨g1, g2, g3⟩ := dput_part hd hn (ht.mono hf.le) hv
        refine ih (addL L o.dst) s1 s' m' _ w' (fun o ho => hb o (by simp [ho])) hk.2 (fun d hd' => ?_) h ((outc_grows hg ho).2 hwf) g1 g2 hr' fun a' w'' m'' k1 k2 k3 k4 k5 => hq a' w'' m'' k1 k2 (k3.trans g3) k4 (hf.trans hr k5)
        unfold dput at hd
        unfold addL at hd'
        cases hdst : o.dst with
        | none =>
          rw [hdst] at hd hd'
          simp only [Option.some.injEq] at hd
          rw [← hd]; exact hL d hd'
        | some x =>
          rw [hdst] at hd hd'
          simp only at hd hd'
          cases hx : x.blt n
          · rw [hx] at hd; cases hd
          · rw [hx] at hd
            simp only [cond_true, Option.some.injEq] at hd
            rw [← hd, Tr.get_put]
            rcases List.mem_cons.1 hd' with rfl | hm
            · rw [if_pos rfl]; rfl
            · by_cases e : d = x
              · rw [if_pos e]; rfl
              · rw [if_neg e]; exact hL d hm
      unfold wpO at this
      unfold wpList
      exact this
    · cases h
/-- A region, by what the evaluator makes of it; other slots are as they may be. -/
theorem region_part [Bs] (hP : ProgOk P T) {n id : Nat} {ops : Array Oper} {L : List Nat} {R : St → Prop} {s : St} {Q : Exit → Act → World → Prop} (h : AOps P T n ops ops.toList R s) (hok : codeOk T (.region id ops false) = true) (hk : knL ops ops.toList L = true) (hL : ∀ d ∈ L, (s.tm.get d).isSome) (hwf : HWf s.H)
    {m : Map} {a : Act} {w : World} (ht : TmP m s.tm a.tmps) (hn : a.tmps.size = n) (hr : Rep P m s.H w)
    (hq : ∀ s' a' w' m', R s' → TmP m' s'.tm a'.tmps → a'.tmps.size = n → a'.defers = a.defers → Rep P m' s'.H w' → Fr m s.H w m' s'.H w' → Q .normal a' w') : (Code.region id ops false).wp P Q a w := by
  simp only [codeOk, Bool.and_eq_true, List.all_eq_true] at hok
  have hbox : ∀ o ∈ ops, boxOk P o := by
    intro o ho e x hop
    have := hok.1 o (by simpa using ho)
    unfold opOk at this
    rw [hop] at this
    obtain ⟨k, hk⟩ := Option.isSome_iff_exists.1 this
    obtain ⟨i, hi, _⟩ := hP.tab.size e k hk
    exact ⟨i, hi⟩
  obtain ⟨k, s', h1, h2⟩ := AOps.spec _ _ _ h
  have hM : ∀ f l H v H', T.mor f l H = some (v, H') → Grows H H' := fun f l H v H' hm => (hP.mor f l.toArray H v H' (by simpa using hm)).1
  exact wp_region_list (evOps_part hP.tab hP.fns (call_of_code hP (code_sound hP k).1) (evCall_grows hM k) ops.toList L s s' m a w (fun o ho => hbox o (by simpa using ho)) hk hL h1 hwf ht hn hr
    fun a' w' m' k1 k2 k3 k4 k5 => hq s' a' w' m' h2 k1 k2 k3 k4 k5)
end
end Go.Ev
/- A call that turns a part of memory, told in short, by the kernel. -/
namespace Go.Ev
open Go
set_option linter.unusedVariables false
set_option linter.unusedSimpArgs false
set_option linter.constructorNameAsVariable false
noncomputable section
/-! What was there is asked for no more -/
def killK (m : Nat) (S : TBs) (θ : List Nat) : Nat → HT → (HT → Bool) → Bool := List.rec (motive := fun _ => Nat → HT → (HT → Bool) → Bool) (fun _ t K => K t)
  (fun x _ ih b t K => Option.rec (motive := fun _ => Bool) (fN (Nat.succ b) fun c => ih c t K) (fun _ => nthK θ b fun x => ifK (Nat.blt x m) (hpK x none t fun t => fN (Nat.succ b) fun c => ih c t K) false) x) S
open Classical in
theorem killK_true {m : Nat} {θ : List Nat} : ∀ {S : TBs} {b : Nat} {t : HT} {K : HT → Bool}, killK m S θ b t K = true → ∃ t', K t' = true ∧ (∀ a tb i, S[a]? = some (some tb) → θ[b + a]? = some i → i < m) ∧ ∀ i, i < 32767 → hAt i t' = if (∃ a tb, S[a]? = some (some tb) ∧ θ[b + a]? = some i) then none else hAt i t := by
  intro S
  induction S with
  | nil => intro b t K h; exact ⟨t, h, (fun a tb i h => (by cases h)), (fun i hi => (by rw [if_neg (by rintro ⟨a, tb, h, _⟩; cases h)]))⟩
  | cons x S ih =>
    intro b t K h
    cases x with
    | none =>
      have h : (fN (Nat.succ b) fun c => killK m S θ c t K) = true := h
      rw [fN_eq] at h
      obtain ⟨t', h1, hlt, h2⟩ := ih h
      refine ⟨t', h1, fun a tb i ha hi => ?_, fun i hi => ?_⟩
      · cases a with
        | zero => cases ha
        | succ a => exact hlt a tb i (by simpa using ha) (by rw [show Nat.succ b + a = b + (a + 1) by omega]; exact hi)
      rw [h2 i hi]
      have : (∃ a tb, S[a]? = some (some tb) ∧ θ[b + 1 + a]? = some i) ↔ ∃ a tb, (none :: S)[a]? = some (some tb) ∧ θ[b + a]? = some i := by
        constructor
        · rintro ⟨a, tb, h3, h4⟩
          exact ⟨a + 1, tb, by simpa using h3, by rw [show b + (a + 1) = b + 1 + a by omega]; exact h4⟩
        · rintro ⟨a, tb, h3, h4⟩
          cases a with
          | zero => cases h3
          | succ a => exact ⟨a, tb, by simpa using h3, by rw [show b + 1 + a = b + (a + 1) by omega]; exact h4⟩
      simp only [Nat.succ_eq_add_one, this]
    | some tb0 =>
      have h : (nthK θ b fun x => ifK (Nat.blt x m) (hpK x none t fun t => fN (Nat.succ b) fun c => killK m S θ c t K) false) = true := h
      obtain ⟨x, h3, h40⟩ := nthK_true h
      obtain ⟨hxm, h4⟩ := ifF_true h40
      obtain ⟨h5, h6⟩ := hpK_set h4
      rw [fN_eq] at h6
      obtain ⟨t', h1, hlt, h2⟩ := ih h6
      refine ⟨t', h1, fun a tb i ha hi => ?_, fun i hi => ?_⟩
      · cases a with
        | zero =>
          rw [Nat.add_zero, h3] at hi
          cases hi
          exact Nat.le_of_ble_eq_true hxm
        | succ a => exact hlt a tb i (by simpa using ha) (by rw [show Nat.succ b + a = b + (a + 1) by omega]; exact hi)
      rw [h2 i hi, hAt_set h5 hi]
      by_cases hc : ∃ a tb, S[a]? = some (some tb) ∧ θ[b + 1 + a]? = some i
      · rw [if_pos hc, if_pos]
        obtain ⟨a, tb, h7, h8⟩ := hc
        exact ⟨a + 1, tb, by simpa using h7, by rw [show b + (a + 1) = b + 1 + a by omega]; exact h8⟩
      · rw [if_neg hc]
        by_cases hx : i = x
        · subst hx
          rw [if_pos rfl, if_pos ⟨0, tb0, rfl, h3⟩]
        · rw [if_neg hx, if_neg]
          rintro ⟨a, tb, h7, h8⟩
          cases a with
          | zero => rw [Nat.add_zero, h3] at h8; cases h8; exact hx rfl
          | succ a => exact hc ⟨a, tb, by simpa using h7, by rw [show b + 1 + a = b + (a + 1) by omega]; exact h8⟩
/-! What is there instead -/
def isSim (v : SV) : Bool := match v with
  | .n _ _ => true | .z _ _ => true | .w _ _ => true | .t => true | .f => true | .np => true | .ns => true | .nm => true | .nf => true
  | .p _ _ => true | .sl _ _ _ _ => true | .m _ => true
  | _ => false
def isNumW (v : SV) : Bool := match v with
  | .n _ _ => true | .z _ _ => true | .w _ _ => true
  | _ => false
def etaK (g n i : Nat) (K : Nat → Bool) : Bool := Bool.rec (motive := fun _ => Bool) (fN (Nat.add n i) K) (K g) (Nat.beq i 0)
theorem etaK_eq (g n i : Nat) (K : Nat → Bool) : etaK g n i K = K (eta g n i) := by
  unfold etaK eta
  cases hb : Nat.beq i 0 <;> simp only [hb, show i.beq 0 = Nat.beq i 0 from rfl, cond_false, cond_true, fN_eq] <;> rfl
def renK (g n : Nat) (v : SV) (K : SV → Bool) : Bool := match v with
  | .p b o => etaK g n b fun b => K (.p b o)
  | .sl b o l c => etaK g n b fun b => K (.sl b o l c)
  | .m b => etaK g n b fun b => K (.m b)
  | v => ifK (isSim v) (K v) false
theorem renK_true {g n : Nat} {v : SV} {K : SV → Bool} (h : renK g n v K = true) : ∃ u, K u = true ∧ ∀ ρ, u.inst ρ = renV g n (v.inst ρ) ∧ Simple (v.inst ρ) := by
  have pl : ∀ ρ, plain (v.inst ρ) = true → v.inst ρ = renV g n (v.inst ρ) ∧ Simple (v.inst ρ) := fun ρ hp => by
    refine ⟨?_, .inl hp⟩
    generalize v.inst ρ = x at hp
    unfold renV
    split <;> first | rfl | cases hp
  unfold renK at h
  split at h
  · rw [etaK_eq] at h
    exact ⟨_, h, fun ρ => ⟨rfl, .inr ⟨_, .ptr _⟩⟩⟩
  · rw [etaK_eq] at h
    exact ⟨_, h, fun ρ => ⟨rfl, .inr ⟨_, .slice _ _ _⟩⟩⟩
  · rw [etaK_eq] at h
    exact ⟨_, h, fun ρ => ⟨rfl, .inr ⟨_, .map⟩⟩⟩
  · rename_i n1 n2 n3
    obtain ⟨h1, h2⟩ := ifF_true h
    refine ⟨v, h2, fun ρ => pl ρ ?_⟩
    cases v <;> first | rfl | (cases h1; done) | exact absurd rfl (n1 _ _) | exact absurd rfl (n2 _ _ _ _) | exact absurd rfl (n3 _)
def mapR (g n : Nat) (l : List SV) : (List SV → Bool) → Bool := List.rec (motive := fun _ => (List SV → Bool) → Bool) (fun K => K []) (fun v _ ih K => renK g n v fun u => ih fun l => K (u :: l)) l
theorem mapR_true {g n : Nat} : ∀ {l : List SV} {K : List SV → Bool}, mapR g n l K = true → ∃ r, K r = true ∧ ∀ ρ, r.map (SV.inst ρ) = (l.map (SV.inst ρ)).map (renV g n) ∧ ∀ x ∈ l.map (SV.inst ρ), Simple x := by
  intro l
  induction l with
  | nil => intro K h; exact ⟨[], h, fun ρ => ⟨rfl, fun x hx => by cases hx⟩⟩
  | cons v l ih =>
    intro K h
    obtain ⟨u, h1, h2⟩ := renK_true (K := fun u => mapR g n l fun l => K (u :: l)) h
    obtain ⟨r, h3, h4⟩ := ih h1
    refine ⟨u :: r, h3, fun ρ => ⟨?_, fun x hx => ?_⟩⟩
    · rw [List.map_cons, List.map_cons, List.map_cons, (h2 ρ).1, (h4 ρ).1]
    · rw [List.map_cons] at hx
      rcases List.mem_cons.1 hx with rfl | hx
      · exact (h2 ρ).2
      · exact (h4 ρ).2 x hx
def trNum (t : Tr SV) : Bool := Tr.rec (motive := fun _ => Bool) true (fun _ v _ a b => ifK a (ifK (Option.rec (motive := fun _ => Bool) true (fun x => isNumW x) v) b false) false) t
theorem trNum_get : ∀ {t : Tr SV}, trNum t = true → ∀ i v, t.get i = some v → isNumW v = true := by
  intro t
  induction t with
  | lf => intro _ i v h; cases h
  | nd l v r ihl ihr =>
    intro h i x hx
    obtain ⟨h1, h2⟩ := ifF_true (a := trNum l) (b := ifK (Option.rec (motive := fun _ => Bool) true (fun x => isNumW x) v) (trNum r) false) h
    obtain ⟨h3, h4⟩ := ifF_true h2
    cases i with
    | zero =>
      have hx : v = some x := hx
      subst hx; exact h3
    | succ k =>
      simp only [Tr.get] at hx
      cases hb : (k % 2).beq 0 <;> rw [hb] at hx
      · exact ihr h4 _ _ hx
      · exact ihl h1 _ _ hx
theorem isNumW_inst {v : SV} (h : isNumW v = true) (ρ : Nat → Nat) : plain (v.inst ρ) = true := by
  unfold isNumW at h
  split at h <;> first | rfl | cases h
theorem renV_plain {g n : Nat} {x : Value} (h : plain x = true) : renV g n x = x := by
  unfold renV
  split <;> first | rfl | cases h
/-- A block under other names. -/
def tbK (g n : Nat) (tb : TB) (K : SOb → Bool) : Bool := TB.rec (motive := fun _ => Bool) (fun e cs => mapR g n cs fun l => mkC l fun c => K ⟨c, e, false⟩) (fun e cs => mapR g n cs fun l => K ⟨.ls l, e, false⟩)
  (fun e zs l => ptK l .lf fun t => ifK (zs.all fun p => isNum p.2) (ifK (trNum t) (K ⟨.tr zs t, e, false⟩) false) false) tb
theorem tbK_true {g n : Nat} {tb : TB} {K : SOb → Bool} (h : tbK g n tb K = true) : ∃ o, K o = true ∧ ∀ ρ, o.inst ρ = renO g n (tb.ob ρ) ∧ ∀ x ∈ (tb.ob ρ).cells, Simple x := by
  cases tb with
  | l e cs =>
    obtain ⟨l, h1, h2⟩ := mapR_true (l := cs) (K := fun l => mkC l fun c => K ⟨c, e, false⟩) h
    obtain ⟨c, h3, h4⟩ := mkC_true h1
    exact ⟨_, h4, fun ρ => ⟨by unfold SOb.inst; rw [h3, (h2 ρ).1]; rfl, (h2 ρ).2⟩⟩
  | m e cs =>
    obtain ⟨l, h1, h2⟩ := mapR_true (l := cs) (K := fun l => K ⟨.ls l, e, false⟩) h
    exact ⟨_, h1, fun ρ => ⟨by unfold SOb.inst; show (⟨l.map (SV.inst ρ), e, false⟩ : Ob) = _; rw [(h2 ρ).1]; rfl, (h2 ρ).2⟩⟩
  | z e zs l =>
    have h : (ptK l .lf fun t => ifK (zs.all fun p => isNum p.2) (ifK (trNum t) (K ⟨.tr zs t, e, false⟩) false) false) = true := h
    rw [ptK_eq] at h
    generalize ht0 : pt l .lf = t at h
    obtain ⟨h1, h2⟩ := ifF_true (a := zs.all fun p => isNum p.2) (b := ifK (trNum t) (K ⟨.tr zs t, e, false⟩) false) h
    obtain ⟨h3, h4⟩ := ifF_true h2
    have hp : ∀ ρ, ∀ x ∈ ((Cs.tr zs t).toL.map (SV.inst ρ)), plain x = true := fun ρ x hx => by
      obtain ⟨v, hv, rfl⟩ := List.mem_map.1 hx
      refine isNumW_inst ?_ ρ
      simp only [Cs.toL] at hv
      obtain ⟨i, hi, rfl⟩ := List.getElem_of_mem hv
      have hi' : i < (baseL zs).length := by simpa using hi
      rw [List.getElem_mapIdx]
      cases ht : t.get i with
      | some u => exact trNum_get h3 i u ht
      | none =>
        show isNumW ((baseL zs)[i]'hi') = true
        have hm : (baseL zs)[i]'hi' ∈ baseL zs := List.getElem_mem _
        generalize (baseL zs)[i]'hi' = d at hm
        unfold baseL at hm
        obtain ⟨p, hp, hm⟩ := List.mem_flatMap.1 hm
        rw [List.eq_of_mem_replicate hm]
        have := List.all_eq_true.1 h1 p hp
        unfold isNum at this
        split at this
        · rename_i he; rw [he]; rfl
        · cases this
    refine ⟨_, h4, fun ρ => ⟨?_, fun x hx => .inl (hp ρ x (by rw [← ht0]; exact hx))⟩⟩
    show (⟨(Cs.tr zs t).toL.map (SV.inst ρ), e, false⟩ : Ob) = ⟨((Cs.tr zs (pt l .lf)).toL.map (SV.inst ρ)).map (renV g n), e, false⟩
    rw [ht0]
    congr 1
    refine (List.map_id _).symm.trans (List.map_congr_left fun x hx => ?_)
    exact (renV_plain (hp ρ x hx)).symm
def layR (g n : Nat) (S : TBs) : Nat → HT → (HT → Bool) → Bool := List.rec (motive := fun _ => Nat → HT → (HT → Bool) → Bool) (fun _ t K => K t)
  (fun x _ ih b t K => Option.rec (motive := fun _ => Bool) (hpK b none t fun t => fN (Nat.succ b) fun c => ih c t K) (fun tb => tbK g n tb fun o => hpK b (some o) t fun t => fN (Nat.succ b) fun c => ih c t K) x) S
theorem layR_true {g n : Nat} : ∀ {S : TBs} {b : Nat} {t : HT} {K : HT → Bool}, layR g n S b t K = true → ∃ t', K t' = true ∧ ∀ ρ, (∀ i, i < 32767 → (hAt i t').map (SOb.inst ρ) = if b ≤ i ∧ i < b + S.length then ((S[i - b]?).bind fun x => x.map fun tb => renO g n (tb.ob ρ)) else (hAt i t).map (SOb.inst ρ)) ∧ ∀ tb, some tb ∈ S → ∀ x ∈ (tb.ob ρ).cells, Simple x := by
  intro S
  induction S with
  | nil => intro b t K h; exact ⟨t, h, fun ρ => ⟨fun i hi => by rw [if_neg (by rw [List.length_nil]; omega)], fun tb hm => by cases hm⟩⟩
  | cons x S ih =>
    intro b t K h
    have step : ∀ (o : Option SOb), (∀ ρ, o.map (SOb.inst ρ) = x.map fun tb => renO g n (tb.ob ρ)) → (∀ ρ tb, x = some tb → ∀ y ∈ (tb.ob ρ).cells, Simple y) → (hpK b o t fun t => fN (Nat.succ b) fun c => layR g n S c t K) = true → ∃ t', K t' = true ∧ ∀ ρ, (∀ i, i < 32767 → (hAt i t').map (SOb.inst ρ) = if b ≤ i ∧ i < b + (x :: S).length then (((x :: S)[i - b]?).bind fun x => x.map fun tb => renO g n (tb.ob ρ)) else (hAt i t).map (SOb.inst ρ)) ∧ ∀ tb, some tb ∈ x :: S → ∀ x ∈ (tb.ob ρ).cells, Simple x := by
      intro o ho hsi hs
      obtain ⟨hb, hs2⟩ := hpK_set hs
      rw [fN_eq] at hs2
      obtain ⟨t', h1, h2⟩ := ih hs2
      refine ⟨t', h1, fun ρ => ⟨fun i hi => ?_, fun tb hm => ?_⟩⟩
      · rw [(h2 ρ).1 i hi, hAt_set hb hi]
        by_cases hib : i = b
        · subst hib
          rw [if_neg (by omega), if_pos rfl, if_pos (by rw [List.length_cons]; omega), Nat.sub_self]
          simp only [List.getElem?_cons_zero, Option.bind_some]
          exact ho ρ
        · rw [if_neg hib]
          by_cases hc : b + 1 ≤ i ∧ i < b + 1 + S.length
          · rw [if_pos hc, if_pos (by rw [List.length_cons]; omega), show i - b = (i - (b + 1)) + 1 by omega, List.getElem?_cons_succ]
          · rw [if_neg hc, if_neg (by rw [List.length_cons]; omega)]
      · rcases List.mem_cons.1 hm with e | hm
        · exact hsi ρ tb e.symm
        · exact (h2 ρ).2 tb hm
    cases x with
    | none => exact step none (fun _ => rfl) (fun _ _ e => by cases e) h
    | some tb =>
      obtain ⟨o, h1, h2⟩ := tbK_true (tb := tb) (K := fun o => hpK b (some o) t fun t => fN (Nat.succ b) fun c => layR g n S c t K) h
      exact step (some o) (fun ρ => by simp only [Option.map_some, (h2 ρ).1]) (fun ρ tb' e => by cases e; exact (h2 ρ).2) h1
/-- A part of memory laid anew. -/
def insK (g : Nat) (S E : TBs) (θ : List Nat) (t : HT) (m : Nat) (K : HT → Nat → Bool) : Bool := match E with
  | some e0 :: er => ifK (Nat.blt g m) (ifK (Nat.ble (m + E.length) 32767) (killK m S θ.reverse 0 t fun t => layR g m (none :: er) m t fun t => tbK g m e0 fun o => hpK g (some o) t fun t => fN (m + E.length) fun m => K t m) false) false
  | _ => false
open Classical in
def rgS (S : TBs) (θ : List Nat) (b : Nat) : Bool := decide (∃ (a : Nat) (tb : TB), S[a]? = some (some tb) ∧ θ.reverse[a]? = some b)
open Classical in
theorem insK_true {g : Nat} {S E : TBs} {θ : List Nat} {t : HT} {m : Nat} {K : HT → Nat → Bool} (h : insK g S E θ t m K = true) :
    g < m ∧ m + E.length ≤ 32767 ∧ ∃ t', K t' (m + E.length) = true ∧ ∀ ρ, instH ρ t' (m + E.length) = insH g (rgS S θ) (tbH E ρ) (instH ρ t m) ∧ ∀ b o, (tbH E ρ).get b = some o → ∀ x ∈ o.cells, Simple x := by
  unfold insK at h
  split at h
  · rename_i e0 er
    obtain ⟨h1, h2⟩ := ifF_true h
    obtain ⟨h3, h4⟩ := ifF_true h2
    have hgm : g < m := Nat.le_of_ble_eq_true h1
    have hle : m + (some e0 :: er).length ≤ 32767 := Nat.le_of_ble_eq_true h3
    obtain ⟨t1, h5, hlt, h6⟩ := killK_true h4
    obtain ⟨t2, h7, h8⟩ := layR_true h5
    obtain ⟨o, h9, h10⟩ := tbK_true h7
    obtain ⟨h11, h12⟩ := hpK_set h9
    rw [fN_eq] at h12
    refine ⟨hgm, hle, _, h12, fun ρ => ⟨?_, fun b o' ho x hx => ?_⟩⟩
    · unfold instH insH
      congr 1
      refine full_congr 15 _ _ fun i hi => ?_
      have hi : i < 32767 := by
        have : (2 : Nat) ^ 15 = 32768 := rfl
        omega
      rw [hAt_set h11 hi]
      unfold insF
      show _ = bif i.beq g then ((tbH (some e0 :: er) ρ).get 0).map (renO g m) else bif rgS S θ i then none else bif i.blt m then (instH ρ t m).get i else bif i.blt (m + (some e0 :: er).length) then (bif i.beq m then none else ((tbH (some e0 :: er) ρ).get (i - m)).map (renO g m)) else (instH ρ t m).get i
      by_cases hig : i = g
      · subst hig
        rw [if_pos rfl, Nat.beq_refl, cond_true, tbH_get (by omega)]
        show some (o.inst ρ) = some (renO i m (e0.ob ρ))
        rw [(h10 ρ).1]
      · rw [if_neg hig, show i.beq g = false from by
          cases hq : i.beq g
          · rfl
          · exact absurd (Nat.eq_of_beq_eq_true hq) hig, cond_false, (h8 ρ).1 i hi]
        have hrg : rgS S θ i = true ↔ ∃ (a : Nat) (tb : TB), S[a]? = some (some tb) ∧ θ.reverse[0 + a]? = some i := by
          unfold rgS
          rw [decide_eq_true_iff]
          simp only [Nat.zero_add]
        by_cases him : i < m
        · rw [if_neg (by omega), h6 i hi, show i.blt m = true from Nat.ble_eq_true_of_le him, cond_true, get_instH hi]
          cases hr : rgS S θ i
          · rw [if_neg (fun q => by rw [hrg.2 q] at hr; cases hr)]; rfl
          · rw [if_pos (hrg.1 hr)]; rfl
        · have hr : rgS S θ i = false := by
            cases hr : rgS S θ i
            · rfl
            · obtain ⟨a, tb, q1, q2⟩ := hrg.1 hr
              exact absurd (hlt a tb i q1 q2) him
          rw [hr, cond_false, show i.blt m = false from by
            cases hq : i.blt m
            · rfl
            · exact absurd (Nat.le_of_ble_eq_true hq) him, cond_false]
          by_cases hie : i < m + (some e0 :: er).length
          · rw [if_pos ⟨by omega, by simpa using hie⟩, show i.blt (m + (some e0 :: er).length) = true from Nat.ble_eq_true_of_le hie, cond_true]
            by_cases hem : i = m
            · subst hem
              rw [Nat.beq_refl, Nat.sub_self]; rfl
            · rw [show i.beq m = false from by
                cases hq : i.beq m
                · rfl
                · exact absurd (Nat.eq_of_beq_eq_true hq) hem, cond_false, tbH_get (by omega)]
              unfold obAt
              obtain ⟨j, rfl⟩ : ∃ j, i = m + (j + 1) := ⟨i - m - 1, by omega⟩
              rw [Nat.add_sub_cancel_left, List.getElem?_cons_succ, List.getElem?_cons_succ]
              cases er[j]? with
              | none => rfl
              | some x => cases x <;> rfl
          · rw [if_neg (by intro q; exact hie (by simpa using q.2)), show i.blt (m + (some e0 :: er).length) = false from by
              cases hq : i.blt (m + (some e0 :: er).length)
              · rfl
              · exact absurd (Nat.le_of_ble_eq_true hq) hie, cond_false, h6 i hi, get_instH hi, if_neg (fun q => by rw [hrg.2 q] at hr; cases hr)]
    · obtain ⟨_, hl, tb, hb, rfl⟩ := tbH_some ho
      cases b with
      | zero =>
        simp only [List.getElem?_cons_zero, Option.some.injEq] at hb
        subst hb
        exact (h10 ρ).2 x hx
      | succ b =>
        rw [List.getElem?_cons_succ] at hb
        exact (h8 ρ).2 tb (List.mem_cons_of_mem _ (List.mem_of_getElem? hb)) x hx
  · cases h
end
end Go.Ev
/- Calls that turn a part of memory, laid to the tables. -/
namespace Go.Ev
open Go
set_option linter.unusedVariables false
set_option linter.unusedSimpArgs false
set_option linter.constructorNameAsVariable false
noncomputable section
/-- What a call finds behind its first argument; the words in it; what is there behind the call. -/
structure Job where
  rest : List SV
  S : TBs
  X : Sg
  E : TBs
/-- Does a value lead to a block? -/
def leadsB (b : Nat) (v : SV) : Bool := match v with
  | .p a _ => Nat.beq a b
  | .sl a _ _ _ => Nat.beq a b
  | .m a => Nat.beq a b
  | _ => false
theorem leadsB_true {b : Nat} {v : SV} (h : leadsB b v = true) (ρ : Nat → Nat) : Leads b (v.inst ρ) := by
  unfold leadsB at h
  split at h
  · obtain rfl := Nat.eq_of_beq_eq_true h; exact .ptr _
  · obtain rfl := Nat.eq_of_beq_eq_true h; exact .slice _ _ _
  · obtain rfl := Nat.eq_of_beq_eq_true h; exact .map
  · cases h
def tbAny (b : Nat) (tb : TB) : Bool := match tb with
  | .l _ cs => cs.any (leadsB b)
  | .m _ cs => cs.any (leadsB b)
  | .z _ _ _ => false
theorem tbAny_true {b : Nat} {tb : TB} (h : tbAny b tb = true) (ρ : Nat → Nat) : ∃ x ∈ (tb.ob ρ).cells, Leads b x := by
  unfold tbAny at h
  split at h
  · obtain ⟨v, hv, h1⟩ := List.any_eq_true.1 h
    exact ⟨_, List.mem_map_of_mem hv, leadsB_true h1 ρ⟩
  · obtain ⟨v, hv, h1⟩ := List.any_eq_true.1 h
    exact ⟨_, List.mem_map_of_mem hv, leadsB_true h1 ρ⟩
  · cases h
def ledB (S : TBs) : Bool := (List.range S.length).all fun b => b.beq 0 || match S[b]? with
  | some (some _) => (List.range b).any fun a => match S[a]? with | some (some tb) => tbAny b tb | _ => false
  | _ => true
theorem ledB_true {S : TBs} (h : ledB S = true) (hn : S.length ≤ 32767) (ρ : Nat → Nat) : Led (tbH S ρ) := by
  intro b hb hs
  obtain ⟨o, ho⟩ := Option.isSome_iff_exists.1 hs
  obtain ⟨h1, h2, tb, h3, rfl⟩ := tbH_some ho
  have := List.all_eq_true.1 h b (by simpa using h2)
  rw [show b.beq 0 = false from by
    cases hq : b.beq 0
    · rfl
    · exact absurd (Nat.eq_of_beq_eq_true hq) hb, Bool.false_or, h3] at this
  obtain ⟨a, ha, h4⟩ := List.any_eq_true.1 this
  have ha : a < b := by simpa using ha
  split at h4
  · rename_i ta hta
    obtain ⟨x, hx, hl⟩ := tbAny_true h4 ρ
    exact ⟨a, ta.ob ρ, x, ha, by rw [tbH_get (by omega)]; unfold obAt; rw [hta]; rfl, hx, hl⟩
  · cases h4
def simB (S : TBs) : Bool := S.all fun x => match x with
  | some tb => tbK 0 0 tb fun _ => true
  | none => true
theorem simB_true {S : TBs} (h : simB S = true) (ρ : Nat → Nat) : ∀ b o, (tbH S ρ).get b = some o → ∀ x ∈ o.cells, Simple x := by
  intro b o ho x hx
  obtain ⟨_, _, tb, h1, rfl⟩ := tbH_some ho
  have h2 : tbK 0 0 tb (fun _ => true) = true := List.all_eq_true.1 h _ (List.mem_of_getElem? h1)
  obtain ⟨o, _, h3⟩ := tbK_true h2
  exact (h3 ρ).2 x hx
theorem wr0_of {S : TBs} (h : ∃ tb r, S = some tb :: r) (ρ : Nat → Nat) : (tbH S ρ).wr 0 := by
  obtain ⟨tb, r, rfl⟩ := h
  exact tbH_wr (by rw [tbH_get (by omega)]; rfl)
variable (P : Program) (f : FuncId)
/-- A job that is done. -/
structure JobOk [Bs] (ρ : Nat → Nat) (j : Job) : Prop where
  sem : SemTo P f (instL ρ j.rest) (tbH j.S (valS ρ j.X)) fun S => S = tbH j.E ρ
  led : Led (tbH j.S (valS ρ j.X))
  wr0 : (tbH j.S (valS ρ j.X)).wr 0
  sim : ∀ b o, (tbH j.E ρ).get b = some o → ∀ x ∈ o.cells, Simple x
  cls : ∀ x ∈ instL ρ j.rest, closed x = true
def Mt (ρ : Nat → Nat) (j : Job) (l : List Value) (H : Heap) (p : Nat × (Nat → Option Nat)) : Prop :=
  l = .pointer (some ⟨p.1, 0, none⟩) :: instL ρ j.rest ∧ p.2 0 = some p.1 ∧ Emb p.2 (tbH j.S (valS ρ j.X)) H ∧ H.n + j.E.length ≤ 32767 ∧ p.1 < H.n
open Classical in
def rgJ (ρ : Nat → Nat) (j : Job) (θ : Nat → Option Nat) (b : Nat) : Bool := decide (∃ a : Nat, ((tbH j.S (valS ρ j.X)).get a).isSome ∧ θ a = some b)
open Classical in
theorem rgJ_iff (ρ : Nat → Nat) (j : Job) (θ : Nat → Option Nat) (b : Nat) : rgJ ρ j θ b = true ↔ ∃ a : Nat, ((tbH j.S (valS ρ j.X)).get a).isSome ∧ θ a = some b := by
  unfold rgJ; rw [decide_eq_true_iff]
open Classical in
/-- What a job comes to. -/
def jobH (ρ : Nat → Nat) (j : Job) (l : List Value) (H : Heap) : Option (Value × Heap) :=
  if h : ∃ p, Mt ρ j l H p then some (.bool true, insH (Classical.choose h).1 (rgJ ρ j (Classical.choose h).2) (tbH j.E ρ) H) else none
variable {P f}
theorem jobH_sound [Bs] {ρ : Nat → Nat} {j : Job} (hj : JobOk P f ρ j) {args : Array Value} {H : Heap} {v : Value} {H' : Heap} (h : jobH ρ j args.toList H = some (v, H')) : Grows H H' ∧ ∀ (m : Map) (w : World) (args' : Array Value), HWf H → Rep P m H w → VRs m args.toList args'.toList → Calls P f args' w (CallPost P m H w v H') := by
  unfold jobH at h
  split at h
  · rename_i hx
    have hc := Classical.choose_spec hx
    cases h
    generalize Classical.choose hx = p at hc ⊢
    obtain ⟨g, θ⟩ := p
    obtain ⟨h1, h2, h3, h4, h5⟩ := hc
    refine ⟨ins_grows h5 (tbH_wf _ _), fun m w args' hwf hr ha => ?_⟩
    rw [h1] at ha
    exact ins_calls hj.sem h3 hj.led h2 hj.wr0 hj.sim (tbH_wf _ _) h4 hwf (rgJ_iff ρ j θ) hj.cls hr ha
  · cases h
theorem jobH_at {ρ : Nat → Nat} {j : Job} (hled : Led (tbH j.S (valS ρ j.X))) {l : List Value} {H : Heap} {g : Nat} {θ : Nat → Option Nat} (h : Mt ρ j l H (g, θ)) : jobH ρ j l H = some (.bool true, insH g (rgJ ρ j θ) (tbH j.E ρ) H) := by
  have hx : ∃ p, Mt ρ j l H p := ⟨_, h⟩
  unfold jobH
  rw [dif_pos hx]
  have hc := Classical.choose_spec hx
  generalize Classical.choose hx = p at hc
  obtain ⟨g', φ⟩ := p
  obtain ⟨a1, a2, a3, _, _⟩ := hc
  obtain ⟨b1, b2, b3, _, _⟩ := h
  have hgg : g' = g := by
    have := a1.symm.trans b1
    simp only [List.cons.injEq, Value.pointer.injEq, Option.some.injEq, Addr.mk.injEq] at this
    exact this.1.1
  subst hgg
  have hu : ∀ b, ((tbH j.S (valS ρ j.X)).get b).isSome → φ b = θ b := a3.unique b3 hled (a2.trans b2.symm)
  have hrg : rgJ ρ j φ = rgJ ρ j θ := by
    funext b
    rw [Bool.eq_iff_iff, rgJ_iff, rgJ_iff]
    constructor
    · rintro ⟨a, h1, h2⟩; exact ⟨a, h1, by rw [← hu a h1]; exact h2⟩
    · rintro ⟨a, h1, h2⟩; exact ⟨a, h1, by rw [hu a h1]; exact h2⟩
  show some (Value.bool true, insH g' (rgJ ρ j φ) (tbH j.E ρ) H) = _
  rw [hrg]
/-! By the kernel -/
def nlEq (a : List SV) : List SV → Bool := List.rec (motive := fun _ => List SV → Bool) (fun b => List.rec (motive := fun _ => Bool) true (fun _ _ _ => false) b)
  (fun x _ ih b => List.rec (motive := fun _ => Bool) false (fun y r _ => ifK (numEq x y) (ih r) false) b) a
theorem nlEq_true : ∀ {a b : List SV}, nlEq a b = true → a = b := by
  intro a
  induction a with
  | nil =>
    intro b h
    cases b with
    | nil => rfl
    | cons q r => cases h
  | cons x a ih =>
    intro b h
    cases b with
    | nil => cases h
    | cons y r =>
      obtain ⟨h1, h2⟩ := ifF_true (a := numEq x y) (b := nlEq a r) h
      rw [numEq_true h1, ih h2]
def jobK (G : List Asm) (j : Job) (args : List SV) (t : HT) (m : Nat) (K : KV) : Bool := match args with
  | .p g o :: r => ifK (Nat.beq o 0) (ifK (nlEq r j.rest) (mtT G t j.S g fun θ σ => ifK (allK j.X σ) (insK g j.S j.E θ t m fun t m => K .t t m) false) false) false
  | _ => false
theorem allK_val {X σ : Sg} (h : allK X σ = true) (ρ : Nat → Nat) : agree ρ (valS ρ X) σ := fun p hp => by
  have := List.all_eq_true.1 h p hp
  split at this
  · rename_i w hw
    unfold valS
    rw [hw]
    rw [wEq_sound _ _ this]
  · cases this
open Classical in
theorem jobK_ok {ρ : Nat → Nat} {G : List Asm} (hG : ∀ a ∈ G, a.ok ρ) {j : Job} (hled : Led (tbH j.S (valS ρ j.X))) (hS : j.S.length ≤ 32767) {args : List SV} {t : HT} {m : Nat} {K : KV} (h : jobK G j args t m K = true) :
    ∃ t' m', K .t t' m' = true ∧ jobH ρ j (instL ρ args) (instH ρ t m) = some (.bool true, instH ρ t' m') := by
  unfold jobK at h
  split at h
  · rename_i g o r
    obtain ⟨h1, ha⟩ := ifF_true h
    obtain ⟨h2, hb⟩ := ifF_true ha
    obtain rfl := Nat.eq_of_beq_eq_true h1
    obtain rfl := nlEq_true h2
    obtain ⟨θ, σ, g1, g2, g3, g4, g5⟩ := mtT_true hG m hb
    obtain ⟨h3, hc⟩ := ifF_true g3
    obtain ⟨k1, k2, t', k3, k4⟩ := insK_true hc
    refine ⟨t', _, k3, ?_⟩
    have hm : Mt ρ j (instL ρ (.p g 0 :: j.rest)) (instH ρ t m) (g, fun b => θ.reverse[b]?) := ⟨rfl, g4, g5 _ (allK_val h3 ρ), k2, k1⟩
    rw [jobH_at hled hm, (k4 ρ).1]
    have : rgJ ρ j (fun b => θ.reverse[b]?) = rgS j.S θ := by
      funext b
      rw [Bool.eq_iff_iff, rgJ_iff]
      unfold rgS
      rw [decide_eq_true_iff]
      constructor
      · rintro ⟨a, q1, q2⟩
        obtain ⟨o, ho⟩ := Option.isSome_iff_exists.1 q1
        obtain ⟨_, _, tb, q3, _⟩ := tbH_some ho
        exact ⟨a, tb, q3, q2⟩
      · rintro ⟨a, tb, q1, q2⟩
        have hl := (List.getElem?_eq_some_iff.1 q1).1
        exact ⟨a, by rw [tbH_get (by omega)]; unfold obAt; rw [q1]; rfl, q2⟩
    rw [this]
  · cases h
/-- Which of two jobs? By whether a cell of the first block is nil. -/
def nilAt (c : Nat) (l : List Value) (H : Heap) : Bool := match l with
  | .pointer (some ⟨g, _, _⟩) :: _ => match H.get g with
    | some o => match o.cells[c]? with
      | some (.pointer none) => true
      | _ => false
    | none => false
  | _ => false
def spJ (ρ : Nat → Nat) (c : Nat) (a b : Job) (l : List Value) (H : Heap) : Option (Value × Heap) := bif nilAt c l H then jobH ρ b l H else jobH ρ a l H
theorem spJ_sound [Bs] {P : Program} {f : FuncId} {ρ : Nat → Nat} {c : Nat} {a b : Job} (ha : JobOk P f ρ a) (hb : JobOk P f ρ b) (args : Array Value) (H : Heap) (v : Value) (H' : Heap) (h : spJ ρ c a b args.toList H = some (v, H')) : Grows H H' ∧ ∀ (m : Map) (w : World) (args' : Array Value), HWf H → Rep P m H w → VRs m args.toList args'.toList → Calls P f args' w (CallPost P m H w v H') := by
  unfold spJ at h
  cases hn : nilAt c args.toList H <;> rw [hn] at h
  · exact jobH_sound ha h
  · exact jobH_sound hb h
def twoK (G : List Asm) (c : Nat) (a b : Job) (args : List SV) (t : HT) (m : Nat) (K : KV) : Bool := match args with
  | .p g o :: r => obK g t fun cs _ _ => cgK cs c fun v => match v with
    | .np => jobK G b (.p g o :: r) t m K
    | .p _ _ => jobK G a (.p g o :: r) t m K
    | _ => false
  | _ => false
theorem twoK_ok {P : Program} {f : FuncId} {ρ : Nat → Nat} {T : Tab} {c : Nat} {a b : Job} (ho : ∀ f l, T.orc f l = none) (hf : T.fn f = none) (hm : ∀ l H, T.mor f l H = spJ ρ c a b l H) {G : List Asm} (hG : ∀ a ∈ G, a.ok ρ) (la : Led (tbH a.S (valS ρ a.X))) (lb : Led (tbH b.S (valS ρ b.X))) (na : a.S.length ≤ 32767) (nb : b.S.length ≤ 32767)
    (args : List SV) (t : HT) (m : Nat) (K : KV) (R : Value → Heap → Prop) (h : twoK G c a b args t m K = true) (hR : ∀ v t' m', K v t' m' = true → R (v.inst ρ) (instH ρ t' m')) : ACall P T f ⟨instL ρ args⟩ (instH ρ t m) R := by
  unfold twoK at h
  split at h
  · rename_i g o r
    obtain ⟨cs, e, q, h1, h2⟩ := obK_true h
    obtain ⟨v, h3, h4⟩ := cgK_true h2
    have hcell : ∀ u, v = u → nilAt c (instL ρ (.p g o :: r)) (instH ρ t m) = (match u.inst ρ with | .pointer none => true | _ => false) := fun u hu => by
      subst hu
      show (match (instH ρ t m).get g with | some o => (match o.cells[c]? with | some (.pointer none) => true | _ => false) | none => false) = _
      rw [h1]
      simp only [List.getElem?_map, h3, Option.map_some]
      generalize v.inst ρ = x
      cases x with
      | pointer p => cases p <;> rfl
      | _ => rfl
    split at h4
    · obtain ⟨t', m', k1, k2⟩ := jobK_ok hG lb nb h4
      refine acall_mor (ho _ _) hf ((hm _ _).trans ?_) (hR _ _ _ k1)
      unfold spJ
      rw [hcell .np rfl]
      exact k2
    · rename_i p1 p2
      obtain ⟨t', m', k1, k2⟩ := jobK_ok hG la na h4
      refine acall_mor (ho _ _) hf ((hm _ _).trans ?_) (hR _ _ _ k1)
      unfold spJ
      rw [hcell (.p p1 p2) rfl]
      exact k2
    · cases h4
  · cases h
end
end Go.Ev
