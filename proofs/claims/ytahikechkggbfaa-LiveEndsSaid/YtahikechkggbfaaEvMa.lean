/- Memory under other names: how values and blocks go together, and the operations. -/
import Derived.Test.YtahikechkggbfaaEvSh
namespace Go.Ev
open Go
set_option linter.unusedVariables false
set_option linter.unusedSimpArgs false
/-- Names for names; a name that stands for nothing may be that of a row that is nil. -/
abbrev Em := Nat → Option (Option Nat)
def Em.le (e e1 : Em) : Prop := ∀ b x, e b = some x → e1 b = some x
inductive RN (e : Em) : Value → Value → Prop where
  | same {v : Value} (h : plain v = true) : RN e v v
  | ptr {b off c : Nat} (h : e b = some (some c)) : RN e (.pointer (some ⟨b, off, none⟩)) (.pointer (some ⟨c, off, none⟩))
  | slice {b off c n cap : Nat} (h : e b = some (some c)) : RN e (.slice (some ⟨b, off, none⟩) n cap) (.slice (some ⟨c, off, none⟩) n cap)
  | nils {b off cap : Nat} (h : e b = some none) (hc : unk ≤ cap) : RN e (.slice (some ⟨b, off, none⟩) 0 cap) (.slice none 0 0)
  | agg {xs ys : Array Value} (hs : xs.size = ys.size) (h : ∀ i (h1 : i < xs.size) (h2 : i < ys.size), RN e xs[i] ys[i]) : RN e (.agg xs) (.agg ys)
  | tuple {xs ys : Array Value} (hs : xs.size = ys.size) (h : ∀ i (h1 : i < xs.size) (h2 : i < ys.size), RN e xs[i] ys[i]) : RN e (.tuple xs) (.tuple ys)
  | func {fn : Fn} {fs gs cs ds : Array Value} (hs : fs.size = gs.size) (h : ∀ i (h1 : i < fs.size) (h2 : i < gs.size), RN e fs[i] gs[i])
      (ht : cs.size = ds.size) (k : ∀ i (h1 : i < cs.size) (h2 : i < ds.size), RN e cs[i] ds[i]) : RN e (.func fn fs cs) (.func fn gs ds)
  | iface {t : TypeId} {v v' : Value} (h : RN e v v') : RN e (.iface t v) (.iface t v')
theorem RN.mono {e e1 : Em} (he : e.le e1) {v v' : Value} (h : RN e v v') : RN e1 v v' := by
  induction h with
  | same h => exact .same h
  | ptr h => exact .ptr (he _ _ h)
  | slice h => exact .slice (he _ _ h)
  | nils h hc => exact .nils (he _ _ h) hc
  | agg hs _ ih => exact .agg hs ih
  | tuple hs _ ih => exact .tuple hs ih
  | func hs _ ht _ ih ih' => exact .func hs ih ht ih'
  | iface _ ih => exact .iface ih
theorem RN.plain_eq {e : Em} {v v' : Value} (h : RN e v v') (hp : plain v = true) : v' = v := by
  cases h <;> simp_all [plain]
theorem RN.closed_eq {e : Em} {v v' : Value} (h : RN e v v') (hp : closed v = true) : v' = v := by
  cases h with
  | same h => rfl
  | ptr h => simp [closed, plain] at hp
  | slice h => simp [closed, plain] at hp
  | nils h hc => simp [closed, plain] at hp
  | agg hs h =>
    simp only [closed, List.all_eq_true] at hp
    congr 1
    refine Array.ext hs.symm fun i h1 h2 => ?_
    exact (h i h2 h1).plain_eq (hp _ (by simp))
  | tuple hs h =>
    simp only [closed, List.all_eq_true] at hp
    congr 1
    refine Array.ext hs.symm fun i h1 h2 => ?_
    exact (h i h2 h1).plain_eq (hp _ (by simp))
  | func hs h ht k =>
    simp only [closed, Bool.and_eq_true, List.isEmpty_iff, Array.toList_eq_nil_iff] at hp
    obtain ⟨rfl, rfl⟩ := hp
    simp at hs ht
    simp [Array.eq_empty_of_size_eq_zero hs.symm, Array.eq_empty_of_size_eq_zero ht.symm]
  | iface h => simp [closed, plain] at hp
theorem RN.of_closed {e : Em} {v : Value} (hp : closed v = true) : RN e v v := by
  cases v <;> simp only [closed] at hp
  case agg cs =>
    refine .agg rfl fun i h1 h2 => .same ?_
    exact (List.all_eq_true.1 hp) _ (by simp)
  case tuple cs =>
    refine .tuple rfl fun i h1 h2 => .same ?_
    exact (List.all_eq_true.1 hp) _ (by simp)
  case func fn f c =>
    simp only [Bool.and_eq_true, List.isEmpty_iff, Array.toList_eq_nil_iff] at hp
    obtain ⟨rfl, rfl⟩ := hp
    exact .func rfl (fun i h1 => by simp at h1) rfl (fun i h1 => by simp at h1)
  all_goals exact .same hp
theorem RN.one {e : Em} {v v' : Value} (h : RN e v v') (h1 : Ev.one v = true) : Ev.one v' = true := by
  cases h <;> simp_all [Ev.one]
theorem plain_one1 {v : Value} (h : plain v = true) : Ev.one v = true := by cases v <;> simp_all [plain, Ev.one]
theorem one_cells {v : Value} (h : Ev.one v = true) : v.cells = #[v] := by cases v <;> first | rfl | cases h
theorem RN.cells {e : Em} {v v' : Value} (h : RN e v v') : v'.cells.size = v.cells.size ∧ ∀ (i : Nat) (x : Value), v.cells[i]? = some x → ∃ y, v'.cells[i]? = some y ∧ RN e x y := by
  have key : ∀ u u', RN e u u' → u.cells = #[u] → u'.cells = #[u'] → u'.cells.size = u.cells.size ∧ ∀ (i : Nat) (x : Value), u.cells[i]? = some x → ∃ y, u'.cells[i]? = some y ∧ RN e x y := by
    intro u u' hu h1 h2
    rw [h1, h2]
    refine ⟨rfl, fun i x hx => ?_⟩
    cases i with
    | zero => simp at hx; subst hx; exact ⟨u', by simp, hu⟩
    | succ i => simp at hx
  cases h with
  | agg hs h =>
    refine ⟨hs.symm, fun i x hx => ?_⟩
    obtain ⟨h1, h2⟩ := Array.getElem?_eq_some_iff.1 hx
    simp only [Value.cells] at h1 h2 ⊢
    subst h2
    exact ⟨_, Array.getElem?_eq_getElem (by omega), h i h1 (by omega)⟩
  | same h => exact key _ _ (.same h) (one_cells (plain_one1 h)) (one_cells (plain_one1 h))
  | ptr h => exact key _ _ (.ptr h) rfl rfl
  | slice h => exact key _ _ (.slice h) rfl rfl
  | nils h hc => exact key _ _ (.nils h hc) rfl rfl
  | tuple hs h => exact key _ _ (.tuple hs h) rfl rfl
  | func hs h ht k => exact key _ _ (.func hs h ht k) rfl rfl
  | iface h => exact key _ _ (.iface h) rfl rfl
/-- Two rows of values that go together. -/
def RNs (e : Em) (xs ys : List Value) : Prop := xs.length = ys.length ∧ ∀ (i : Nat) (x : Value), xs[i]? = some x → ∃ y, ys[i]? = some y ∧ RN e x y
theorem RNs.nil {e : Em} : RNs e [] [] := ⟨rfl, fun i x h => by simp at h⟩
theorem RNs.cons {e : Em} {x y : Value} {xs ys : List Value} (h : RN e x y) (k : RNs e xs ys) : RNs e (x :: xs) (y :: ys) :=
  ⟨by simp [k.1], fun i z hz => by cases i with
    | zero => simp at hz; subst hz; exact ⟨y, by simp, h⟩
    | succ i => simpa using k.2 i z (by simpa using hz)⟩
theorem RNs.mono {e e1 : Em} (he : e.le e1) {xs ys : List Value} (h : RNs e xs ys) : RNs e1 xs ys :=
  ⟨h.1, fun i x hx => by obtain ⟨y, hy, hv⟩ := h.2 i x hx; exact ⟨y, hy, hv.mono he⟩⟩
theorem RNs.arr {e : Em} {xs ys : Array Value} (h : RNs e xs.toList ys.toList) : xs.size = ys.size ∧ ∀ i (h1 : i < xs.size) (h2 : i < ys.size), RN e xs[i] ys[i] := by
  refine ⟨by simpa using h.1, fun i h1 h2 => ?_⟩
  obtain ⟨y, hy, hv⟩ := h.2 i xs[i] (by simp [h1])
  have : y = ys[i] := by simp [h2] at hy; exact hy.symm
  subst this; exact hv
theorem RNs.of_arr {e : Em} {xs ys : Array Value} (hs : xs.size = ys.size) (h : ∀ i (h1 : i < xs.size) (h2 : i < ys.size), RN e xs[i] ys[i]) : RNs e xs.toList ys.toList :=
  ⟨by simpa using hs, fun i x hx => by
    obtain ⟨h1, h2⟩ := List.getElem?_eq_some_iff.1 hx
    simp at h1 h2; subst h2
    exact ⟨ys[i]'(by omega), by simp [show i < ys.size by omega], h i h1 (by omega)⟩⟩
theorem RNs.append {e : Em} {xs ys us vs : List Value} (h : RNs e xs ys) (k : RNs e us vs) : RNs e (xs ++ us) (ys ++ vs) := by
  refine ⟨by simp [h.1, k.1], fun i x hx => ?_⟩
  by_cases hi : i < xs.length
  · rw [List.getElem?_append_left hi] at hx
    rw [List.getElem?_append_left (by rw [← h.1]; exact hi)]
    exact h.2 i x hx
  · rw [List.getElem?_append_right (by omega)] at hx
    rw [List.getElem?_append_right (by rw [← h.1]; omega), ← h.1]
    exact k.2 _ x hx
theorem RNs.drop {e : Em} {xs ys : List Value} (h : RNs e xs ys) (n : Nat) : RNs e (xs.drop n) (ys.drop n) :=
  ⟨by simp [h.1], fun i x hx => by rw [List.getElem?_drop] at hx ⊢; exact h.2 _ x hx⟩
theorem RNs.take {e : Em} {xs ys : List Value} (h : RNs e xs ys) (n : Nat) : RNs e (xs.take n) (ys.take n) :=
  ⟨by simp [h.1], fun i x hx => by
    rw [List.getElem?_take] at hx ⊢
    split at hx
    · rw [if_pos ‹_›]; exact h.2 _ x hx
    · cases hx⟩
theorem RNs.set {e : Em} {xs ys : List Value} (h : RNs e xs ys) (n : Nat) {v v' : Value} (hv : RN e v v') : RNs e (xs.set n v) (ys.set n v') :=
  ⟨by simp [h.1], fun i x hx => by
    rw [List.getElem?_set] at hx ⊢
    split at hx
    · split at hx
      · cases hx; rw [if_pos ‹_›, if_pos (by rw [← h.1]; assumption)]; exact ⟨v', rfl, hv⟩
      · cases hx
    · rw [if_neg ‹_›]; exact h.2 _ x hx⟩
theorem RNs.agg {e : Em} {xs ys : Array Value} (h : RNs e xs.toList ys.toList) : RN e (.agg xs) (.agg ys) := .agg h.arr.1 h.arr.2
theorem RNs.tuple {e : Em} {xs ys : Array Value} (h : RNs e xs.toList ys.toList) : RN e (.tuple xs) (.tuple ys) := .tuple h.arr.1 h.arr.2
theorem RNs.of_plain {e : Em} {l : List Value} (h : l.all plain = true) : RNs e l l :=
  ⟨rfl, fun i x hx => ⟨x, hx, .same (List.all_eq_true.1 h x (List.mem_of_getElem? hx))⟩⟩
theorem RNs.all_one {e : Em} {xs ys : List Value} (h : RNs e xs ys) (h1 : xs.all Ev.one = true) : ys.all Ev.one = true := by
  rw [List.all_eq_true]
  intro u hu
  obtain ⟨i, hi⟩ := List.mem_iff_getElem?.1 hu
  have hlt := (List.getElem?_eq_some_iff.1 hi).1
  obtain ⟨y, hy, hv⟩ := h.2 i (xs[i]'(by rw [h.1]; exact hlt)) (by simp)
  rw [hi] at hy; cases hy
  exact hv.one (List.all_eq_true.1 h1 _ (by simp))
theorem RNs.cells {e : Em} {v v' : Value} (h : RN e v v') : RNs e v.cells.toList v'.cells.toList :=
  ⟨by simpa using h.cells.1.symm, fun i x hx => by obtain ⟨y, hy, hv⟩ := h.cells.2 i x (by simpa using hx); exact ⟨y, by simpa using hy, hv⟩⟩
theorem RNs.splice {e : Em} {l l' cs cs' : List Value} (h : RNs e l l') (k : RNs e cs cs') (off : Nat) : RNs e (splice l off cs) (splice l' off cs') := by
  have hlen := k.1
  unfold Ev.splice
  match cs, cs', k, hlen with
  | [], [], _, _ => exact ((h.take _).append RNs.nil).append (h.drop _)
  | [x], [y], k, _ =>
    obtain ⟨y', hy, hv⟩ := k.2 0 x rfl
    simp at hy; subst hy
    exact h.set _ hv
  | x :: x2 :: r, y :: y2 :: r', k, hl =>
    have : (x :: x2 :: r).length = (y :: y2 :: r').length := hl
    simp only [this]
    exact ((h.take _).append k).append (h.drop _)
/-- A value stands for one alone. -/
theorem RN.inj {e : Em} {v a : Value} (h : RN e v a) : ∀ {b : Value}, RN e v b → a = b := by
  induction h with
  | same hp => intro b hb; exact (hb.plain_eq hp).symm
  | ptr h1 => intro b hb; cases hb with
    | same hp => simp [plain] at hp
    | ptr h2 => rw [h1] at h2; cases h2; rfl
  | slice h1 => intro b hb; cases hb with
    | same hp => simp [plain] at hp
    | slice h2 => rw [h1] at h2; cases h2; rfl
    | nils h2 _ => rw [h1] at h2; cases h2
  | nils h1 _ => intro b hb; cases hb with
    | same hp => simp [plain] at hp
    | slice h2 => rw [h1] at h2; cases h2
    | nils h2 _ => rfl
  | agg hs _ ih => intro b hb; cases hb with
    | same hp => simp [plain] at hp
    | agg hs2 h2 => congr 1; exact Array.ext (hs.symm.trans hs2) fun i h3 h4 => ih i (by omega) h3 (h2 i (by omega) h4)
  | tuple hs _ ih => intro b hb; cases hb with
    | same hp => simp [plain] at hp
    | tuple hs2 h2 => congr 1; exact Array.ext (hs.symm.trans hs2) fun i h3 h4 => ih i (by omega) h3 (h2 i (by omega) h4)
  | func hs _ ht _ ih ih' => intro b hb; cases hb with
    | same hp => simp [plain] at hp
    | func hs2 h2 ht2 k2 => congr 1 <;> first | exact Array.ext (hs.symm.trans hs2) fun i h3 h4 => ih i (by omega) h3 (h2 i (by omega) h4) | exact Array.ext (ht.symm.trans ht2) fun i h3 h4 => ih' i (by omega) h3 (k2 i (by omega) h4)
  | iface _ ih => intro b hb; cases hb with
    | same hp => simp [plain] at hp
    | iface h2 => rw [ih h2]
theorem RNs.inj {e : Em} {l a b : List Value} (h : RNs e l a) (k : RNs e l b) : a = b := by
  refine List.ext_getElem (h.1.symm.trans k.1) fun i h1 h2 => ?_
  have hl : i < l.length := by rw [h.1]; exact h1
  obtain ⟨y, hy, hv⟩ := h.2 i _ (List.getElem?_eq_getElem hl)
  obtain ⟨z, hz, hw⟩ := k.2 i _ (List.getElem?_eq_getElem hl)
  rw [List.getElem?_eq_getElem h1] at hy; rw [List.getElem?_eq_getElem h2] at hz
  cases hy; cases hz
  exact hv.inj hw
/-- Two memories that go together. -/
structure HN (e : Em) (h H : Heap) : Prop where
  wf : ∀ b o, h.get b = some o → b < h.n
  dom : ∀ b x, e b = some x → b < h.n
  rng : ∀ b c, e b = some (some c) → c < H.n
  blk : ∀ b c o, h.get b = some o → e b = some (some c) → ∃ cs, H.get c = some ⟨cs, o.elem, o.ro⟩ ∧ RNs e o.cells cs
  gh : ∀ b o, h.get b = some o → e b = some none → o.cells = []
  inj : ∀ b1 b2 c, e b1 = some (some c) → e b2 = some (some c) → (h.get b1).isSome → (h.get b2).isSome → b1 = b2
/-- How it goes on. -/
structure Ex (e e1 : Em) (h H h1 H1 : Heap) : Prop where
  le : e.le e1
  new : ∀ b x, e1 b = some x → e b = some x ∨ (h.n ≤ b ∧ ∀ c, x = some c → H.n ≤ c)
  hn : h.n ≤ h1.n
  Hn : H.n ≤ H1.n
  keep : ∀ c, c < H.n → (∀ b, e b = some (some c) → h.get b = none) → H1.get c = H.get c
  lv : ∀ b, b < h.n → h.get b = none → h1.get b = none
theorem Em.le_refl (e : Em) : e.le e := fun _ _ h => h
theorem Ex.refl (e : Em) (h H : Heap) : Ex e e h H h H := ⟨fun _ _ h => h, fun _ _ h => .inl h, Nat.le_refl _, Nat.le_refl _, fun _ _ _ => rfl, fun _ _ h => h⟩
theorem Ex.trans {e e1 e2 : Em} {h H h1 H1 h2 H2 : Heap} (hn : HN e h H) (a : Ex e e1 h H h1 H1) (b : Ex e1 e2 h1 H1 h2 H2) : Ex e e2 h H h2 H2 where
  le := fun x y k => b.le _ _ (a.le _ _ k)
  new := fun x y k => by
    rcases b.new x y k with k | ⟨k1, k2⟩
    · exact a.new x y k
    · exact .inr ⟨Nat.le_trans a.hn k1, fun c q => Nat.le_trans a.Hn (k2 c q)⟩
  hn := Nat.le_trans a.hn b.hn
  Hn := Nat.le_trans a.Hn b.Hn
  keep := fun c hc hk => by
    refine (b.keep c (Nat.lt_of_lt_of_le hc a.Hn) fun x hx => ?_).trans (a.keep c hc hk)
    rcases a.new x _ hx with k | ⟨_, k2⟩
    · exact a.lv x (hn.dom x _ k) (hk x k)
    · have := k2 c rfl; omega
  lv := fun x hx k => b.lv x (Nat.lt_of_lt_of_le hx a.hn) (a.lv x hx k)
def Em.add (e : Em) (b c : Nat) : Em := fun x => if x = b then some (some c) else e x
theorem HN.push {e : Em} {h H : Heap} (hn : HN e h H) {o O : Ob} (he : O.elem = o.elem) (hr : O.ro = o.ro) (hc : RNs e o.cells O.cells) :
    HN (e.add h.n H.n) (h.push o) (H.push O) ∧ Ex e (e.add h.n H.n) h H (h.push o) (H.push O) := by
  have hen : e h.n = none := by
    cases k : e h.n with
    | none => rfl
    | some x => exact absurd (hn.dom _ _ k) (by omega)
  have hle : e.le (e.add h.n H.n) := fun x y k => by
    unfold Em.add
    split
    · rename_i q; rw [q, hen] at k; cases k
    · exact k
  have hcase : ∀ b x, (e.add h.n H.n) b = some x → (b = h.n ∧ x = some H.n) ∨ (b ≠ h.n ∧ e b = some x) := by
    intro b x k
    unfold Em.add at k
    split at k
    · rename_i q; cases k; exact .inl ⟨q, rfl⟩
    · rename_i q; exact .inr ⟨q, k⟩
  refine ⟨⟨fun b o' k => ?_, fun b x k => ?_, fun b c k => ?_, fun b c o' k1 k2 => ?_, fun b o' k1 k2 => ?_, fun b1 b2 c k1 k2 k3 k4 => ?_⟩, ⟨hle, fun b x k => ?_, by simp [Heap.n_push], by simp [Heap.n_push], fun c hc _ => by rw [Heap.get_push, if_neg (by omega)], fun b hb k => by rw [Heap.get_push, if_neg (by omega)]; exact k⟩⟩
  · rw [Heap.get_push] at k
    rw [Heap.n_push]
    split at k
    · omega
    · have := hn.wf _ _ k; omega
  · rw [Heap.n_push]
    rcases hcase b x k with ⟨rfl, _⟩ | ⟨_, k⟩
    · omega
    · have := hn.dom _ _ k; omega
  · rw [Heap.n_push]
    rcases hcase b _ k with ⟨_, k⟩ | ⟨_, k⟩
    · cases k; omega
    · have := hn.rng _ _ k; omega
  · rw [Heap.get_push] at k1
    rcases hcase b _ k2 with ⟨rfl, k⟩ | ⟨q, k⟩
    · cases k
      rw [if_pos rfl] at k1
      cases k1
      exact ⟨O.cells, by rw [Heap.get_push, if_pos rfl, ← he, ← hr], hc.mono hle⟩
    · rw [if_neg q] at k1
      obtain ⟨cs, g1, g2⟩ := hn.blk b c o' k1 k
      have := hn.rng _ _ k
      exact ⟨cs, by rw [Heap.get_push, if_neg (by omega)]; exact g1, g2.mono hle⟩
  · rw [Heap.get_push] at k1
    rcases hcase b _ k2 with ⟨rfl, k⟩ | ⟨q, k⟩
    · cases k
    · rw [if_neg q] at k1; exact hn.gh b o' k1 k
  · rw [Heap.get_push] at k3 k4
    rcases hcase b1 _ k1 with ⟨rfl, k⟩ | ⟨q, k⟩
    · cases k
      rcases hcase b2 _ k2 with ⟨rfl, k⟩ | ⟨q, k⟩
      · rfl
      · have := hn.rng _ _ k; omega
    · rcases hcase b2 _ k2 with ⟨rfl, k'⟩ | ⟨q', k'⟩
      · cases k'; have := hn.rng _ _ k; omega
      · rw [if_neg q] at k3; rw [if_neg q'] at k4
        exact hn.inj b1 b2 c k k' k3 k4
  · rcases hcase b x k with ⟨rfl, rfl⟩ | ⟨_, k⟩
    · exact .inr ⟨Nat.le_refl _, fun c q => by cases q; exact Nat.le_refl _⟩
    · exact .inl k
theorem HN.put {e : Em} {h H : Heap} (hn : HN e h H) {b c : Nat} {o : Ob} (hb : h.get b = some o) (hc : e b = some (some c)) {l L : List Value} (hr : RNs e l L) (el : TypeId) (ro : Bool) :
    HN e (h.put b ⟨l, el, ro⟩) (H.put c ⟨L, el, ro⟩) ∧ Ex e e h H (h.put b ⟨l, el, ro⟩) (H.put c ⟨L, el, ro⟩) := by
  refine ⟨⟨fun x o' k => ?_, hn.dom, hn.rng, fun x y o' k1 k2 => ?_, fun x o' k1 k2 => ?_, fun b1 b2 c' k1 k2 k3 k4 => ?_⟩, ⟨fun _ _ k => k, fun _ _ k => .inl k, Nat.le_refl _, Nat.le_refl _, fun c' hc' hk => ?_, fun x hx k => ?_⟩⟩
  · rw [Heap.get_put] at k
    split at k
    · rename_i q; rw [q]; exact hn.wf _ _ hb
    · exact hn.wf _ _ k
  · rw [Heap.get_put] at k1
    by_cases q : x = b
    · rw [if_pos q] at k1; cases k1
      rw [q, hc] at k2; cases k2
      exact ⟨L, by rw [Heap.get_put, if_pos rfl], hr⟩
    · rw [if_neg q] at k1
      obtain ⟨cs, g1, g2⟩ := hn.blk x y o' k1 k2
      refine ⟨cs, ?_, g2⟩
      rw [Heap.get_put, if_neg fun q2 => q ?_]
      · exact g1
      · rw [q2] at k2
        exact hn.inj _ _ _ k2 hc (by rw [k1]; rfl) (by rw [hb]; rfl)
  · rw [Heap.get_put] at k1
    by_cases q : x = b
    · rw [q, hc] at k2; cases k2
    · rw [if_neg q] at k1; exact hn.gh x o' k1 k2
  · refine hn.inj b1 b2 c' k1 k2 ?_ ?_
    · rw [Heap.get_put] at k3; split at k3
      · rename_i q; rw [q, hb]; rfl
      · exact k3
    · rw [Heap.get_put] at k4; split at k4
      · rename_i q; rw [q, hb]; rfl
      · exact k4
  · rw [Heap.get_put, if_neg]
    intro q
    have := hk b (by rw [hc, q])
    rw [hb] at this; cases this
  · rw [Heap.get_put, if_neg]
    · exact k
    · intro q; rw [q, hb] at k; cases k
/-- A block that is no more; the one that goes with it, too, or there was none. -/
theorem HN.kill {e : Em} {h H : Heap} (hn : HN e h H) {b c : Nat} {o : Ob} (hb : h.get b = some o) (hc : e b = some (some c)) :
    HN e (h.kill b) (H.kill c) ∧ Ex e e h H (h.kill b) (H.kill c) := by
  refine ⟨⟨fun x o' k => ?_, hn.dom, hn.rng, fun x y o' k1 k2 => ?_, fun x o' k1 k2 => ?_, fun b1 b2 c' k1 k2 k3 k4 => ?_⟩, ⟨fun _ _ k => k, fun _ _ k => .inl k, Nat.le_refl _, Nat.le_refl _, fun c' hc' hk => ?_, fun x hx k => ?_⟩⟩
  · rw [Heap.get_kill] at k
    split at k
    · cases k
    · exact hn.wf _ _ k
  · rw [Heap.get_kill] at k1
    by_cases q : x = b
    · rw [if_pos q] at k1; cases k1
    · rw [if_neg q] at k1
      obtain ⟨cs, g1, g2⟩ := hn.blk x y o' k1 k2
      refine ⟨cs, ?_, g2⟩
      rw [Heap.get_kill, if_neg fun q2 => q ?_]
      · exact g1
      · rw [q2] at k2
        exact hn.inj _ _ _ k2 hc (by rw [k1]; rfl) (by rw [hb]; rfl)
  · rw [Heap.get_kill] at k1
    split at k1
    · cases k1
    · exact hn.gh x o' k1 k2
  · refine hn.inj b1 b2 c' k1 k2 ?_ ?_
    · rw [Heap.get_kill] at k3; split at k3
      · cases k3
      · exact k3
    · rw [Heap.get_kill] at k4; split at k4
      · cases k4
      · exact k4
  · rw [Heap.get_kill, if_neg]
    intro q
    have := hk b (by rw [hc, q])
    rw [hb] at this; cases this
  · rw [Heap.get_kill]
    split
    · rfl
    · exact k
theorem HN.kill0 {e : Em} {h H : Heap} (hn : HN e h H) (b : Nat) : HN e (h.kill b) H ∧ Ex e e h H (h.kill b) H := by
  refine ⟨⟨fun x o' k => ?_, hn.dom, hn.rng, fun x y o' k1 k2 => ?_, fun x o' k1 k2 => ?_, fun b1 b2 c' k1 k2 k3 k4 => ?_⟩, ⟨fun _ _ k => k, fun _ _ k => .inl k, Nat.le_refl _, Nat.le_refl _, fun _ _ _ => rfl, fun x hx k => ?_⟩⟩
  · rw [Heap.get_kill] at k; split at k
    · cases k
    · exact hn.wf _ _ k
  · rw [Heap.get_kill] at k1; split at k1
    · cases k1
    · exact hn.blk x y o' k1 k2
  · rw [Heap.get_kill] at k1; split at k1
    · cases k1
    · exact hn.gh x o' k1 k2
  · refine hn.inj b1 b2 c' k1 k2 ?_ ?_
    · rw [Heap.get_kill] at k3; split at k3
      · cases k3
      · exact k3
    · rw [Heap.get_kill] at k4; split at k4
      · cases k4
      · exact k4
  · rw [Heap.get_kill]; split
    · rfl
    · exact k
end Go.Ev
