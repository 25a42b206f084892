/- The evaluator's memory and the model's: the relation between them, and how it goes on. -/
import Derived.Test.YthmcpmdohmfeiaaGreatDoorEvB
import Derived.Laws.Append
import Derived.Room.AppendAsks
import Derived.Room.AppendUpon
import Derived.Room.AppendOwn
import Derived.Deep.MidRow
import Derived.Below
namespace Go.Ev
open Go
set_option linter.unusedVariables false
/-- A world that lies below: what is laid in it stays. -/
class Bs where
  W : World
  K : Nat
structure TabOk (P : Program) (T : Tab) : Prop where
  under : ∀ t d, T.under t = some d → P.underlying t = some d
  size : ∀ t n, T.size t = some n → ∃ i, P.info? t = some i ∧ i.size = n
  bytes : ∀ t n, T.bytes t = some n → ∃ i, P.info? t = some i ∧ i.bytes = n
  zero : ∀ t z, T.zero t = some z → ∃ i, P.info? t = some i ∧ i.zero = some z ∧ z.cells.size = i.size ∧ z.cells.all (·.oneCell') = true
section
variable (P : Program)
def CelOk (m : Map) (o : Ob) (L : Loc) (w : World) : Prop :=
  ∃ cs e fz, w.heap[L.c]? = some (.cells cs e fz) ∧ L.o + o.cells.length ≤ cs.size ∧ (∀ i x, o.cells[i]? = some x → ∃ y, cs[L.o + i]? = some y ∧ VR m x y) ∧
    (o.ro = false → fz = (0, 0) ∧ e = o.elem ∧ cs.size = L.sz) ∧ ∃ i, P.info? o.elem = some i ∧ i.size = L.esz
/-- A map, or a walk over one. -/
def MapOk (m : Map) (o : Ob) (L : Loc) (w : World) : Prop :=
  o.ro = false ∧ ((∃ (es : Array MapEntry) (cl : Nat) (l : List Row), w.heap[L.c]? = some (.map es cl) ∧ o.cells = mlay cl l ∧ l.length = es.size ∧ ∀ (i : Nat) (x : Row), l[i]? = some x → ∃ e : MapEntry, es[i]? = some e ∧ (closed x.1 = true ∧ e.key = x.1) ∧ VR m x.2.1 e.val ∧ e.born = x.2.2) ∨
    ∃ (b : Nat) (M : Loc) (since st : Nat) (seen : List Nat), m b = some M ∧ M.mp = true ∧ w.heap[L.c]? = some (.mapIter (some M.c) since seen.toArray st) ∧ o.cells = icells b since st seen)
/-- A block, by what it is. -/
def BlkOk (m : Map) (o : Ob) (L : Loc) (w : World) : Prop := (L.mp = false ∧ CelOk P m o L w) ∨ (L.mp = true ∧ MapOk m o L w)
/-- What lies below is as it was. -/
structure OnBs [Bs] (w : World) : Prop where
  ksz : Bs.K ≤ w.heap.size
  low : ∀ c, c < Bs.K → w.heap[c]? = Bs.W.heap[c]?
/-- What lies below is as it was, and none may write it. -/
structure Bas [Bs] (m : Map) (H : Heap) (w : World) : Prop extends OnBs w where
  own : ∀ b L, m b = some L → H.wr b → Bs.K ≤ L.c
structure Rep0 (m : Map) (H : Heap) (w : World) : Prop where
  dom : ∀ b L, m b = some L → b < H.n
  blk : ∀ b L o, m b = some L → H.get b = some o → BlkOk P m o L w
  inj : ∀ b1 b2 L1 L2, m b1 = some L1 → m b2 = some L2 → H.wr b1 → (H.get b2).isSome → b1 ≠ b2 → L1.c ≠ L2.c
structure Rep [Bs] (m : Map) (H : Heap) (w : World) : Prop extends Rep0 P m H w where
  bas : Bas m H w
end
def owned (m : Map) (H : Heap) (c : Nat) : Prop := ∃ b L, m b = some L ∧ H.wr b ∧ L.c = c
structure Fr (m : Map) (H : Heap) (w : World) (m' : Map) (H' : Heap) (w' : World) : Prop where
  os : w'.os = w.os
  tape : w'.tape = w.tape
  output : w'.output = w.output
  size : w.heap.size ≤ w'.heap.size
  keep : ∀ c, c < w.heap.size → ¬ owned m H c → w'.heap[c]? = w.heap[c]?
  le : m.le m'
  n : H.n ≤ H'.n
  dom : ∀ b L, m' b = some L → m b = some L ∨ H.n ≤ b
  live : ∀ b L, m' b = some L → (H'.get b).isSome → (m b = some L ∧ (H.get b).isSome) ∨ (H.n ≤ b ∧ (owned m H L.c ∨ w.heap.size ≤ L.c))
  wrb : ∀ b, b < H.n → H'.wr b → H.wr b
  lv : ∀ b, b < H.n → (H'.get b).isSome → (H.get b).isSome
  akeep : ∀ b, b < H.n → m b = none → H'.get b = H.get b
theorem Map.le_refl (m : Map) : m.le m := fun _ _ h => h
theorem Map.le_trans {a b c : Map} (h : a.le b) (k : b.le c) : a.le c := fun _ _ x => k _ _ (h _ _ x)
theorem Fr.refl (m : Map) (H : Heap) (w : World) : Fr m H w m H w :=
  ⟨rfl, rfl, rfl, Nat.le_refl _, fun _ _ _ => rfl, Map.le_refl m, Nat.le_refl _, fun _ _ h => .inl h, fun _ _ h k => .inl ⟨h, k⟩, fun _ _ h => h, fun _ _ h => h, fun _ _ _ => rfl⟩
theorem Heap.wr_live {H : Heap} {b : Nat} (h : H.wr b) : (H.get b).isSome := by obtain ⟨o, h, _⟩ := h; simp [h]
theorem Bas.next [Bs] {m m' : Map} {H H' : Heap} {w w' : World} (h : Bas m H w) (hd : ∀ b L, m b = some L → b < H.n) (k : Fr m H w m' H' w') : Bas m' H' w' where
  ksz := Nat.le_trans h.ksz k.size
  low := fun c hc => (k.keep c (Nat.lt_of_lt_of_le hc h.ksz) (by
    rintro ⟨b, L, h1, h2, rfl⟩
    have := h.own b L h1 h2
    omega)).trans (h.low c hc)
  own := fun b L hb hw => by
    rcases k.live b L hb (Heap.wr_live hw) with ⟨h1, _⟩ | ⟨_, h2 | h2⟩
    · exact h.own b L h1 (k.wrb b (hd b L h1) hw)
    · obtain ⟨b', L', h3, h4, h5⟩ := h2
      have := h.own b' L' h3 h4
      omega
    · exact Nat.le_trans h.ksz h2
theorem Rep0.full [Bs] {P : Program} {m m' : Map} {H H' : Heap} {w w' : World} (h1 : Rep0 P m' H' w') (h2 : Fr m H w m' H' w') (hr : Rep P m H w) : Rep P m' H' w' := ⟨h1, hr.bas.next hr.dom h2⟩
theorem Fr.own [Bs] {P : Program} {m m' : Map} {H H' : Heap} {w w' : World} (hr : Rep P m H w) (h : Fr m H w m' H' w') {c : Nat} (ho : owned m' H' c) : owned m H c ∨ w.heap.size ≤ c := by
  obtain ⟨b, L, h1, h2, rfl⟩ := ho
  rcases h.live b L h1 (Heap.wr_live h2) with ⟨k, _⟩ | ⟨_, k | k⟩
  · exact .inl ⟨b, L, k, h.wrb b (hr.dom b L k) h2, rfl⟩
  · exact .inl k
  · exact .inr k
theorem Fr.trans [Bs] {P : Program} {m m' m'' : Map} {H H' H'' : Heap} {w w' w'' : World} (hr : Rep P m H w) (h : Fr m H w m' H' w') (k : Fr m' H' w' m'' H'' w'') : Fr m H w m'' H'' w'' where
  os := k.os.trans h.os
  tape := k.tape.trans h.tape
  output := k.output.trans h.output
  size := Nat.le_trans h.size k.size
  keep := fun c hc ho => by
    refine (k.keep c (Nat.lt_of_lt_of_le hc h.size) fun ho' => ?_).trans (h.keep c hc ho)
    rcases h.own hr ho' with h1 | h1
    · exact ho h1
    · omega
  le := Map.le_trans h.le k.le
  n := Nat.le_trans h.n k.n
  dom := fun b L hb => by
    rcases k.dom b L hb with h1 | h1
    · exact h.dom b L h1
    · exact .inr (Nat.le_trans h.n h1)
  live := fun b L hb hl => by
    rcases k.live b L hb hl with ⟨h1, h2⟩ | ⟨h1, h2 | h2⟩
    · exact h.live b L h1 h2
    · rcases h.own hr h2 with h3 | h3
      · exact .inr ⟨Nat.le_trans h.n h1, .inl h3⟩
      · exact .inr ⟨Nat.le_trans h.n h1, .inr h3⟩
    · exact .inr ⟨Nat.le_trans h.n h1, .inr (Nat.le_trans h.size h2)⟩
  wrb := fun b hb h2 => h.wrb b hb (k.wrb b (Nat.lt_of_lt_of_le hb h.n) h2)
  lv := fun b hb h2 => h.lv b hb (k.lv b (Nat.lt_of_lt_of_le hb h.n) h2)
  akeep := fun b hb h2 => by
    refine (k.akeep b (Nat.lt_of_lt_of_le hb h.n) ?_).trans (h.akeep b hb h2)
    cases hm : m' b with
    | none => rfl
    | some L =>
      rcases h.dom b L hm with h3 | h3
      · rw [h2] at h3; cases h3
      · omega
theorem BlkOk.cel {P : Program} {m : Map} {o : Ob} {L : Loc} {w : World} (h : BlkOk P m o L w) (hl : L.mp = false) : CelOk P m o L w := by
  rcases h with ⟨_, h⟩ | ⟨h, _⟩
  · exact h
  · rw [hl] at h; cases h
theorem BlkOk.mapd {P : Program} {m : Map} {o : Ob} {L : Loc} {w : World} (h : BlkOk P m o L w) (hl : L.mp = true) : MapOk m o L w := by
  rcases h with ⟨h, _⟩ | ⟨_, h⟩
  · rw [hl] at h; cases h
  · exact h
theorem BlkOk.isCel {P : Program} {m : Map} {o : Ob} {L : Loc} {w : World} (h : BlkOk P m o L w) {cs : Array Value} {e : TypeId} {fz : Nat × Nat} (hc : w.heap[L.c]? = some (.cells cs e fz)) : L.mp = false := by
  rcases h with ⟨h, _⟩ | ⟨_, _, ⟨es, cl, l, h, _⟩ | ⟨b, M, s, st, seen, _, _, h, _⟩⟩
  · exact h
  · rw [hc] at h; cases h
  · rw [hc] at h; cases h
theorem BlkOk.mono {P : Program} {m m' : Map} (hm : m.le m') {o : Ob} {L : Loc} {w w' : World} (h : BlkOk P m o L w) (hw : w'.heap[L.c]? = w.heap[L.c]?) : BlkOk P m' o L w' := by
  rcases h with ⟨hl, cs, e, fz, h1, h2, h3, h4⟩ | ⟨hl, hro, ⟨es, cl, l, h1, h2, h3, h4⟩ | ⟨b, M, s, st, seen, h0, h1, h2, h3⟩⟩
  · refine .inl ⟨hl, cs, e, fz, hw.trans h1, h2, fun i x hx => ?_, h4⟩
    obtain ⟨y, hy, hv⟩ := h3 i x hx
    exact ⟨y, hy, hv.mono hm⟩
  · refine .inr ⟨hl, hro, .inl ⟨es, cl, l, hw.trans h1, h2, h3, fun i x hx => ?_⟩⟩
    obtain ⟨e, he, hk, hv, hb⟩ := h4 i x hx
    exact ⟨e, he, hk, hv.mono hm, hb⟩
  · exact .inr ⟨hl, hro, .inr ⟨b, M, s, st, seen, hm _ _ h0, h1, hw.trans h2, h3⟩⟩
theorem BlkOk.lt {P : Program} {m : Map} {o : Ob} {L : Loc} {w : World} (h : BlkOk P m o L w) : L.c < w.heap.size := by
  rcases h with ⟨hl, cs, e, fz, h1, _⟩ | ⟨hl, _, ⟨es, cl, l, h1, _⟩ | ⟨b, M, s, st, seen, _, _, h1, _⟩⟩
  · exact (Array.getElem?_eq_some_iff.1 h1).1
  · exact (Array.getElem?_eq_some_iff.1 h1).1
  · exact (Array.getElem?_eq_some_iff.1 h1).1
/-- A draw. -/
theorem Rep.drew [Bs] {P : Program} {m : Map} {H : Heap} {w : World} (h : Rep P m H w) (k : Nat) : Rep P m H { w with drawn := k } :=
  ⟨⟨h.dom, fun b L o h1 h2 => (h.blk b L o h1 h2).mono (Map.le_refl m) rfl, h.inj⟩, ⟨⟨h.bas.ksz, h.bas.low⟩, h.bas.own⟩⟩
theorem Fr.drew {m m' : Map} {H H' : Heap} {w w' : World} (k : Nat) (h : Fr m H { w with drawn := k } m' H' w') : Fr m H w m' H' w' :=
  ⟨h.os, h.tape, h.output, h.size, h.keep, h.le, h.n, h.dom, h.live, h.wrb, h.lv, h.akeep⟩
theorem Fr.drew' {m m' : Map} {H H' : Heap} {w w' : World} (k : Nat) (h : Fr m H w m' H' w') : Fr m H w m' H' { w' with drawn := k } :=
  ⟨h.os, h.tape, h.output, h.size, h.keep, h.le, h.n, h.dom, h.live, h.wrb, h.lv, h.akeep⟩
def Map.add (m : Map) (b : Nat) (L : Loc) : Map := fun x => if x = b then some L else m x
theorem Map.le_add {m : Map} {b : Nat} {L : Loc} (h : m b = none) : m.le (m.add b L) := fun x K hx => by
  unfold Map.add
  split
  · rename_i e; subst e; rw [h] at hx; cases hx
  · exact hx
theorem Map.add_self (m : Map) (b : Nat) (L : Loc) : m.add b L b = some L := by simp [Map.add]
theorem alloc_old (w : World) (o : Obj) (c : Nat) (hc : c < w.heap.size) : (w.alloc o).heap[c]? = w.heap[c]? := heap_alloc_old w o c hc
theorem alloc_new (w : World) (o : Obj) : (w.alloc o).heap[w.heap.size]? = some o := heap_alloc_new w o
/-- A block more. -/
theorem push_any {P : Program} {m : Map} {H : Heap} {w : World} (hr : Rep0 P m H w) (o : Ob) (ob : Obj) (N : Loc) (hN : N.c = w.heap.size) (hblk : BlkOk P (m.add H.n N) o N (w.alloc ob)) :
    Rep0 P (m.add H.n N) (H.push o) (w.alloc ob) ∧ Fr m H w (m.add H.n N) (H.push o) (w.alloc ob) := by
  have hn : m H.n = none := by
    cases h : m H.n with
    | none => rfl
    | some L => exact absurd (hr.dom _ _ h) (by omega)
  have hle : m.le (m.add H.n N) := Map.le_add hn
  have hcase : ∀ b L, (m.add H.n N) b = some L → (b = H.n ∧ L = N) ∨ (b ≠ H.n ∧ m b = some L) := by
    intro b L h
    unfold Map.add at h
    split at h
    · rename_i e; cases h; exact .inl ⟨e, rfl⟩
    · rename_i e; exact .inr ⟨e, h⟩
  have hold : ∀ c, c < w.heap.size → (w.alloc ob).heap[c]? = w.heap[c]? := fun c hc => heap_alloc_old w _ c hc
  refine ⟨⟨fun b L h => ?_, fun b L o' h h2 => ?_, fun b1 b2 L1 L2 h1 h2 h3 h4 hne => ?_⟩, ⟨rfl, rfl, rfl, by simp, fun c hc _ => hold c hc, hle, by simp [Heap.n_push], fun b L h => ?_, fun b L h h2 => ?_, fun b hb h2 => ?_, fun b hb h2 => ?_, fun b hb _ => by rw [Heap.get_push, if_neg (by omega)]⟩⟩
  · rcases hcase b L h with ⟨rfl, _⟩ | ⟨_, h⟩
    · simp [Heap.n_push]
    · have := hr.dom b L h; simp [Heap.n_push]; omega
  · rw [Heap.get_push] at h2
    rcases hcase b L h with ⟨rfl, rfl⟩ | ⟨hb, h⟩
    · simp at h2
      subst h2
      exact hblk
    · rw [if_neg hb] at h2
      have := hr.blk b L o' h h2
      exact this.mono hle (hold _ this.lt)
  · have hw1 : ∀ b L, m b = some L → (H.get b).isSome → L.c < w.heap.size := fun b L h h' => by
      obtain ⟨o', ho'⟩ := Option.isSome_iff_exists.1 h'
      exact (hr.blk b L o' h ho').lt
    have hg : ∀ b, b ≠ H.n → (H.push o).get b = H.get b := fun b hb => by rw [Heap.get_push, if_neg hb]
    rcases hcase b1 L1 h1 with ⟨e1, e1'⟩ | ⟨hb1, g1⟩
    · rcases hcase b2 L2 h2 with ⟨e2, _⟩ | ⟨hb2, g2⟩
      · exact absurd (e1.trans e2.symm) hne
      · rw [hg _ hb2] at h4
        have := hw1 _ _ g2 h4
        rw [e1']; omega
    · rcases hcase b2 L2 h2 with ⟨_, e2'⟩ | ⟨hb2, g2⟩
      · have h5 := Heap.wr_live h3
        rw [hg _ hb1] at h5
        have := hw1 _ _ g1 h5
        rw [e2']; omega
      · rw [hg _ hb2] at h4
        have h3' : H.wr b1 := by obtain ⟨q, hq, hq2⟩ := h3; exact ⟨q, by rw [← hg _ hb1]; exact hq, hq2⟩
        exact hr.inj b1 b2 L1 L2 g1 g2 h3' h4 hne
  · rcases hcase b L h with ⟨rfl, _⟩ | ⟨_, h⟩
    · exact .inr (Nat.le_refl _)
    · exact .inl h
  · rcases hcase b L h with ⟨e1, e1'⟩ | ⟨hb, h⟩
    · exact .inr ⟨Nat.le_of_eq e1.symm, .inr (by rw [e1', hN]; exact Nat.le_refl _)⟩
    · rw [Heap.get_push, if_neg hb] at h2
      exact .inl ⟨h, h2⟩
  · obtain ⟨q, hq, hq2⟩ := h2
    rw [Heap.get_push, if_neg (by omega)] at hq
    exact ⟨q, hq, hq2⟩
  · rw [Heap.get_push, if_neg (by omega)] at h2
    exact h2
theorem push_sound0 {P : Program} {m : Map} {H : Heap} {w : World} (hr : Rep0 P m H w) (o : Ob) (cs : Array Value) (hro : o.ro = false) (i : TypeInfo) (hi : P.info? o.elem = some i)
    (hl : o.cells.length ≤ cs.size) (hc : ∀ (k : Nat) (x : Value), o.cells[k]? = some x → ∃ y, cs[k]? = some y ∧ VR m x y) :
    Rep0 P (m.add H.n ⟨w.heap.size, 0, cs.size, i.size, false⟩) (H.push o) (w.alloc (.cells cs o.elem)) ∧ Fr m H w (m.add H.n ⟨w.heap.size, 0, cs.size, i.size, false⟩) (H.push o) (w.alloc (.cells cs o.elem)) := by
  have hn : m H.n = none := by
    cases h : m H.n with
    | none => rfl
    | some L => exact absurd (hr.dom _ _ h) (by omega)
  refine push_any hr o _ _ rfl (.inl ⟨rfl, cs, o.elem, (0, 0), heap_alloc_new w _, by simpa using hl, fun k x hx => ?_, fun _ => ⟨rfl, rfl, rfl⟩, i, hi, rfl⟩)
  obtain ⟨y, hy, hv⟩ := hc k x hx
  exact ⟨y, by simpa using hy, hv.mono (Map.le_add hn)⟩
theorem push_sound [Bs] {P : Program} {m : Map} {H : Heap} {w : World} (hr : Rep P m H w) (o : Ob) (cs : Array Value) (hro : o.ro = false) (i : TypeInfo) (hi : P.info? o.elem = some i)
    (hl : o.cells.length ≤ cs.size) (hc : ∀ (k : Nat) (x : Value), o.cells[k]? = some x → ∃ y, cs[k]? = some y ∧ VR m x y) :
    Rep P (m.add H.n ⟨w.heap.size, 0, cs.size, i.size, false⟩) (H.push o) (w.alloc (.cells cs o.elem)) ∧ Fr m H w (m.add H.n ⟨w.heap.size, 0, cs.size, i.size, false⟩) (H.push o) (w.alloc (.cells cs o.elem)) := by
  obtain ⟨h1, h2⟩ := push_sound0 hr.toRep0 o cs hro i hi hl hc
  exact ⟨h1.full h2 hr, h2⟩
/-- A block that is written. -/
theorem put_any {P : Program} {m : Map} {H : Heap} {w w' : World} (hr : Rep0 P m H w) {b : Nat} {L : Loc} {o : Ob} (hb : m b = some L) (ho : H.get b = some o) (hro : o.ro = false) (cells' : List Value)
    (hother : ∀ c, c ≠ L.c → w'.heap[c]? = w.heap[c]?) (e1 : w'.os = w.os) (e2 : w'.tape = w.tape) (e3 : w'.output = w.output) (e4 : w'.heap.size = w.heap.size) (hblk : BlkOk P m ⟨cells', o.elem, false⟩ L w') :
    Rep0 P m (H.put b ⟨cells', o.elem, false⟩) w' ∧ Fr m H w m (H.put b ⟨cells', o.elem, false⟩) w' := by
  have hwr : H.wr b := ⟨o, ho, hro⟩
  have hget : ∀ x, (H.put b ⟨cells', o.elem, false⟩).get x = if x = b then some ⟨cells', o.elem, false⟩ else H.get x := fun x => Heap.get_put _ _ _ _
  have hlv : ∀ x, ((H.put b ⟨cells', o.elem, false⟩).get x).isSome → (H.get x).isSome := fun x h => by
    rw [hget] at h
    split at h
    · rename_i e; subst e; simp [ho]
    · exact h
  have hw2 : ∀ x, (H.put b ⟨cells', o.elem, false⟩).wr x → H.wr x := fun x h => by
    obtain ⟨q, hq, hq2⟩ := h
    rw [hget] at hq
    split at hq
    · rename_i e; subst e; exact hwr
    · exact ⟨q, hq, hq2⟩
  refine ⟨⟨hr.dom, fun x K o' h h2 => ?_, fun b1 b2 L1 L2 h1 h2 h3 h4 hne => hr.inj b1 b2 L1 L2 h1 h2 (hw2 _ h3) (hlv _ h4) hne⟩,
    ⟨e1, e2, e3, Nat.le_of_eq e4.symm, fun c hc hn => hother c (fun e => hn ⟨b, L, hb, hwr, e.symm⟩), Map.le_refl m, Nat.le_refl _, fun _ _ h => .inl h, fun x K h h2 => .inl ⟨h, hlv _ h2⟩, fun x _ h => hw2 x h, fun x _ h => hlv x h, fun x _ h => (by
      rw [hget]
      split
      · rename_i e; subst e; rw [hb] at h; cases h
      · rfl)⟩⟩
  rw [hget] at h2
  split at h2
  · rename_i e
    subst e
    cases h2
    rw [hb] at h
    cases h
    exact hblk
  · rename_i e
    have := hr.blk x K o' h h2
    exact this.mono (Map.le_refl m) (hother _ (Ne.symm (hr.inj b x L K hb h hwr (by simp [h2]) (Ne.symm e))))
/-- Cells of a block that may be written. -/
theorem put_sound0 {P : Program} {m : Map} {H : Heap} {w : World} (hr : Rep0 P m H w) {b : Nat} {L : Loc} {o : Ob} (hb : m b = some L) (ho : H.get b = some o) (hro : o.ro = false) {cs : Array Value} (hcs : w.heap[L.c]? = some (.cells cs o.elem (0, 0)))
    (cells' : List Value) (hlen : cells'.length = o.cells.length) (cs' : Array Value) (hsz : cs'.size = cs.size)
    (hc : ∀ (k : Nat) (x : Value), cells'[k]? = some x → ∃ y, cs'[L.o + k]? = some y ∧ VR m x y) :
    Rep0 P m (H.put b ⟨cells', o.elem, false⟩) (w.setRow L.c cs') ∧ Fr m H w m (H.put b ⟨cells', o.elem, false⟩) (w.setRow L.c cs') := by
  have hmp := (hr.blk b L o hb ho).isCel hcs
  obtain ⟨cs0, e0, fz0, k1, k2, k3, k4⟩ := (hr.blk b L o hb ho).cel hmp
  rw [hcs] at k1
  injection k1 with k1
  injection k1 with q1 q2 q3
  subst q1 q2 q3
  exact put_any hr hb ho hro cells' (fun c hc => setRow_other w L.c c _ hc) rfl rfl rfl (by simp [World.setRow]) (.inl ⟨hmp, cs', o.elem, (0, 0), setRow_heap w L.c cs _ _ _ hcs, by simp only [hlen, hsz]; exact k2, hc, fun _ => ⟨rfl, rfl, hsz.trans (k4.1 hro).2.2⟩, k4.2⟩)
theorem put_sound [Bs] {P : Program} {m : Map} {H : Heap} {w : World} (hr : Rep P m H w) {b : Nat} {L : Loc} {o : Ob} (hb : m b = some L) (ho : H.get b = some o) (hro : o.ro = false) {cs : Array Value} (hcs : w.heap[L.c]? = some (.cells cs o.elem (0, 0)))
    (cells' : List Value) (hlen : cells'.length = o.cells.length) (cs' : Array Value) (hsz : cs'.size = cs.size)
    (hc : ∀ (k : Nat) (x : Value), cells'[k]? = some x → ∃ y, cs'[L.o + k]? = some y ∧ VR m x y) :
    Rep P m (H.put b ⟨cells', o.elem, false⟩) (w.setRow L.c cs') ∧ Fr m H w m (H.put b ⟨cells', o.elem, false⟩) (w.setRow L.c cs') := by
  obtain ⟨h1, h2⟩ := put_sound0 hr.toRep0 hb ho hro hcs cells' hlen cs' hsz hc
  exact ⟨h1.full h2 hr, h2⟩
/-- A block that is not asked for any more: another lies where it lay. -/
theorem take_sound0 {P : Program} {m : Map} {H : Heap} {w : World} (hr : Rep0 P m H w) {b : Nat} {L : Loc} {o : Ob} (hb : m b = some L) (ho : H.get b = some o) (hro : o.ro = false) {cs : Array Value} (hcs : w.heap[L.c]? = some (.cells cs o.elem (0, 0)))
    (cells' : List Value) (q : Nat) (cs' : Array Value) (hsz : cs'.size = cs.size) (hlen : q + cells'.length ≤ cs.size)
    (hc : ∀ (k : Nat) (x : Value), cells'[k]? = some x → ∃ y, cs'[q + k]? = some y ∧ VR m x y) :
    Rep0 P (m.add H.n ⟨L.c, q, L.sz, L.esz, false⟩) ((H.kill b).push ⟨cells', o.elem, false⟩) (w.setRow L.c cs') ∧ Fr m H w (m.add H.n ⟨L.c, q, L.sz, L.esz, false⟩) ((H.kill b).push ⟨cells', o.elem, false⟩) (w.setRow L.c cs') := by
  have hwr : H.wr b := ⟨o, ho, hro⟩
  have hbn := hr.dom b L hb
  have hn : m H.n = none := by
    cases h : m H.n with
    | none => rfl
    | some L => exact absurd (hr.dom _ _ h) (by omega)
  have hle : m.le (m.add H.n ⟨L.c, q, L.sz, L.esz, false⟩) := Map.le_add hn
  have hother : ∀ c, c ≠ L.c → (w.setRow L.c cs').heap[c]? = w.heap[c]? := fun c hc => setRow_other w L.c c _ hc
  have hcase : ∀ x K, (m.add H.n ⟨L.c, q, L.sz, L.esz, false⟩) x = some K → (x = H.n ∧ K = ⟨L.c, q, L.sz, L.esz, false⟩) ∨ (x ≠ H.n ∧ m x = some K) := by
    intro x K h
    unfold Map.add at h
    split at h
    · rename_i e; cases h; exact .inl ⟨e, rfl⟩
    · rename_i e; exact .inr ⟨e, h⟩
  have hget : ∀ x, ((H.kill b).push ⟨cells', o.elem, false⟩).get x = if x = H.n then some ⟨cells', o.elem, false⟩ else if x = b then none else H.get x := fun x => by
    rw [Heap.get_push, Heap.n_kill, Heap.get_kill]
  have hlv : ∀ x, x ≠ H.n → (((H.kill b).push ⟨cells', o.elem, false⟩).get x).isSome → x ≠ b ∧ (H.get x).isSome := fun x hx h => by
    rw [hget, if_neg hx] at h
    split at h
    · simp at h
    · rename_i e; exact ⟨e, h⟩
  have hw2 : ∀ x, x ≠ H.n → ((H.kill b).push ⟨cells', o.elem, false⟩).wr x → x ≠ b ∧ H.wr x := fun x hx h => by
    obtain ⟨p, hq, hq2⟩ := h
    rw [hget, if_neg hx] at hq
    split at hq
    · cases hq
    · rename_i e; exact ⟨e, p, hq, hq2⟩
  have hmp := (hr.blk b L o hb ho).isCel hcs
  obtain ⟨cs0, e0, fz0, k1, k2, k3, k4⟩ := (hr.blk b L o hb ho).cel hmp
  rw [hcs] at k1
  injection k1 with k1
  injection k1 with q1 q2 q3
  subst q1 q2 q3
  refine ⟨⟨fun x K h => ?_, fun x K o' h h2 => ?_, fun b1 b2 L1 L2 h1 h2 h3 h4 hne => ?_⟩,
    ⟨rfl, rfl, rfl, by simp [World.setRow], fun c hc hn => hother c (fun e => hn ⟨b, L, hb, hwr, e.symm⟩), hle, by simp [Heap.n_push, Heap.n_kill], fun x K h => ?_, fun x K h h2 => ?_, fun x hx h => (hw2 x (by omega) h).2, fun x hx h => (hlv x (by omega) h).2, fun x hx h => by
      rw [hget, if_neg (by omega)]
      split
      · rename_i e; subst e; rw [hb] at h; cases h
      · rfl⟩⟩
  · rcases hcase x K h with ⟨rfl, _⟩ | ⟨_, h⟩
    · simp [Heap.n_push, Heap.n_kill]
    · have := hr.dom x K h; simp [Heap.n_push, Heap.n_kill]; omega
  · rcases hcase x K h with ⟨rfl, rfl⟩ | ⟨hx, h⟩
    · rw [hget, if_pos rfl] at h2
      cases h2
      refine .inl ⟨rfl, cs', o.elem, (0, 0), setRow_heap w L.c cs _ _ _ hcs, by simp only [hsz]; exact hlen, fun k x hx => ?_, fun _ => ⟨rfl, rfl, hsz.trans (k4.1 hro).2.2⟩, k4.2⟩
      obtain ⟨y, hy, hv⟩ := hc k x hx
      exact ⟨y, hy, hv.mono hle⟩
    · have hl := hlv x hx (by simp [h2])
      rw [hget, if_neg hx, if_neg hl.1] at h2
      have := hr.blk x K o' h h2
      exact this.mono hle (hother _ (Ne.symm (hr.inj b x L K hb h hwr hl.2 (Ne.symm hl.1))))
  · rcases hcase b1 L1 h1 with ⟨rfl, rfl⟩ | ⟨hb1, h1⟩
    · rcases hcase b2 L2 h2 with ⟨rfl, rfl⟩ | ⟨hb2, h2⟩
      · exact absurd rfl hne
      · have := hlv b2 hb2 h4
        exact hr.inj b b2 L L2 hb h2 hwr this.2 (Ne.symm this.1)
    · rcases hcase b2 L2 h2 with ⟨rfl, rfl⟩ | ⟨hb2, h2⟩
      · have := hw2 b1 hb1 h3
        exact hr.inj b1 b L1 L h1 hb this.2 (by simp [ho]) this.1
      · exact hr.inj b1 b2 L1 L2 h1 h2 (hw2 b1 hb1 h3).2 (hlv b2 hb2 h4).2 hne
  · rcases hcase x K h with ⟨rfl, _⟩ | ⟨_, h⟩
    · exact .inr (Nat.le_refl _)
    · exact .inl h
  · rcases hcase x K h with ⟨rfl, rfl⟩ | ⟨hx, h⟩
    · exact .inr ⟨Nat.le_refl _, .inl ⟨b, L, hb, hwr, rfl⟩⟩
    · exact .inl ⟨h, (hlv x hx h2).2⟩
theorem take_sound [Bs] {P : Program} {m : Map} {H : Heap} {w : World} (hr : Rep P m H w) {b : Nat} {L : Loc} {o : Ob} (hb : m b = some L) (ho : H.get b = some o) (hro : o.ro = false) {cs : Array Value} (hcs : w.heap[L.c]? = some (.cells cs o.elem (0, 0)))
    (cells' : List Value) (q : Nat) (cs' : Array Value) (hsz : cs'.size = cs.size) (hlen : q + cells'.length ≤ cs.size)
    (hc : ∀ (k : Nat) (x : Value), cells'[k]? = some x → ∃ y, cs'[q + k]? = some y ∧ VR m x y) :
    Rep P (m.add H.n ⟨L.c, q, L.sz, L.esz, false⟩) ((H.kill b).push ⟨cells', o.elem, false⟩) (w.setRow L.c cs') ∧ Fr m H w (m.add H.n ⟨L.c, q, L.sz, L.esz, false⟩) ((H.kill b).push ⟨cells', o.elem, false⟩) (w.setRow L.c cs') := by
  obtain ⟨h1, h2⟩ := take_sound0 hr.toRep0 hb ho hro hcs cells' q cs' hsz hlen hc
  exact ⟨h1.full h2 hr, h2⟩
end Go.Ev
