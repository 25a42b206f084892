/- The evaluator: Memory under other names: how values and blocks go together, and the operations. Memory under other names: each operation. Memory under other names: an operation. Memory under other names: code, calls -/
import Derived.Test.YtgpphhdndmdlgaaDoorEvc
section
namespace Go.Ev
open Go
set_option linter.unusedVariables false
set_option linter.unusedSimpArgs false
abbrev Em := Nat → Option (Option Nat)
def Em.le (e e1 : Em) : Prop := ∀ b x, e b = some x → e1 b = some x
inductive RN (e : Em) : Value → Value → Prop where
 | same {v : Value} (h : plain v = true) : RN e v v
 | ptr {b off c : Nat} (h : e b = some (some c)) : RN e (.pointer (some ⟨b, off, none⟩)) (.pointer (some ⟨c, off, none⟩))
 | slice {b off c n cap : Nat} (h : e b = some (some c)) : RN e (.slice (some ⟨b, off, none⟩) n cap) (.slice (some ⟨c, off, none⟩) n cap)
 | nils {b off cap : Nat} (h : e b = some none) (hc : unk ≤ cap) : RN e (.slice (some ⟨b, off, none⟩) 0 cap) (.slice none 0 0)
 | agg {xs ys : Array Value} (hs : xs.size = ys.size) (h : ∀ i (h1 : i < xs.size) (h2 : i < ys.size), RN e xs[i] ys[i]) : RN e (.agg xs) (.agg ys)
 | tuple {xs ys : Array Value} (hs : xs.size = ys.size) (h : ∀ i (h1 : i < xs.size) (h2 : i < ys.size), RN e xs[i] ys[i]) : RN e (.tuple xs) (.tuple ys)
 | func {fn : Fn} {fs gs cs ds : Array Value} (hs : fs.size = gs.size) (h : ∀ i (h1 : i < fs.size) (h2 : i < gs.size), RN e fs[i] gs[i])
     (ht : cs.size = ds.size) (k : ∀ i (h1 : i < cs.size) (h2 : i < ds.size), RN e cs[i] ds[i]) : RN e (.func fn fs cs) (.func fn gs ds)
 | iface {t : TypeId} {v v' : Value} (h : RN e v v') : RN e (.iface t v) (.iface t v')
theorem RN.mono {e e1 : Em} (he : e.le e1) {v v' : Value} (h : RN e v v') : RN e1 v v' := by
 induction h with
 | same h => exact .same h
 | ptr h => exact .ptr (he _ _ h)
 | slice h => exact .slice (he _ _ h)
 | nils h hc => exact .nils (he _ _ h) hc
 | agg hs _ ih => exact .agg hs ih
 | tuple hs _ ih => exact .tuple hs ih
 | func hs _ ht _ ih ih' => exact .func hs ih ht ih'
 | iface _ ih => exact .iface ih
theorem RN.plain_eq {e : Em} {v v' : Value} (h : RN e v v') (hp : plain v = true) : v' = v := by
 cases h <;> simp_all [plain]
theorem RN.closed_eq {e : Em} {v v' : Value} (h : RN e v v') (hp : closed v = true) : v' = v := by
 cases h with
 | same h => rfl
 | ptr h => simp [closed, plain] at hp
 | slice h => simp [closed, plain] at hp
 | nils h hc => simp [closed, plain] at hp
 | agg hs h =>
  simp only [closed, List.all_eq_true] at hp
  congr 1
  refine Array.ext hs.symm fun i h1 h2 => ?_
  exact (h i h2 h1).plain_eq (hp _ (by simp))
 | tuple hs h =>
  simp only [closed, List.all_eq_true] at hp
  congr 1
  refine Array.ext hs.symm fun i h1 h2 => ?_
  exact (h i h2 h1).plain_eq (hp _ (by simp))
 | func hs h ht k =>
  simp only [closed, Bool.and_eq_true, List.isEmpty_iff, Array.toList_eq_nil_iff] at hp
  obtain ⟨rfl, rfl⟩ := hp
  simp at hs ht
  simp [Array.eq_empty_of_size_eq_zero hs.symm, Array.eq_empty_of_size_eq_zero ht.symm]
 | iface h => simp [closed, plain] at hp
theorem RN.of_closed {e : Em} {v : Value} (hp : closed v = true) : RN e v v := by
 cases v <;> simp only [closed] at hp
 case agg cs =>
  refine .agg rfl fun i h1 h2 => .same ?_
  exact (List.all_eq_true.1 hp) _ (by simp)
 case tuple cs =>
  refine .tuple rfl fun i h1 h2 => .same ?_
  exact (List.all_eq_true.1 hp) _ (by simp)
 case func fn f c =>
  simp only [Bool.and_eq_true, List.isEmpty_iff, Array.toList_eq_nil_iff] at hp
  obtain ⟨rfl, rfl⟩ := hp
  exact .func rfl (fun i h1 => by simp at h1) rfl (fun i h1 => by simp at h1)
 all_goals exact .same hp
theorem RN.one {e : Em} {v v' : Value} (h : RN e v v') (h1 : Ev.one v = true) : Ev.one v' = true := by
 cases h <;> simp_all [Ev.one]
theorem plain_one1 {v : Value} (h : plain v = true) : Ev.one v = true := by cases v <;> simp_all [plain, Ev.one]
theorem one_cells {v : Value} (h : Ev.one v = true) : v.cells = #[v] := by cases v <;> first | rfl | cases h
theorem RN.cells {e : Em} {v v' : Value} (h : RN e v v') : v'.cells.size = v.cells.size ∧ ∀ (i : Nat) (x : Value), v.cells[i]? = some x → ∃ y, v'.cells[i]? = some y ∧ RN e x y := by
 have key : ∀ u u', RN e u u' → u.cells = #[u] → u'.cells = #[u'] → u'.cells.size = u.cells.size ∧ ∀ (i : Nat) (x : Value), u.cells[i]? = some x → ∃ y, u'.cells[i]? = some y ∧ RN e x y := by
  intro u u' hu h1 h2
  rw [h1, h2]
  refine ⟨rfl, fun i x hx => ?_⟩
  cases i with
  | zero => simp at hx; subst hx; exact ⟨u', by simp, hu⟩
  | succ i => simp at hx
 cases h with
 | agg hs h =>
  refine ⟨hs.symm, fun i x hx => ?_⟩
  obtain ⟨h1, h2⟩ := Array.getElem?_eq_some_iff.1 hx
  simp only [Value.cells] at h1 h2 ⊢
  subst h2
  exact ⟨_, Array.getElem?_eq_getElem (by omega), h i h1 (by omega)⟩
 | same h => exact key _ _ (.same h) (one_cells (plain_one1 h)) (one_cells (plain_one1 h))
 | ptr h => exact key _ _ (.ptr h) rfl rfl
 | slice h => exact key _ _ (.slice h) rfl rfl
 | nils h hc => exact key _ _ (.nils h hc) rfl rfl
 | tuple hs h => exact key _ _ (.tuple hs h) rfl rfl
 | func hs h ht k => exact key _ _ (.func hs h ht k) rfl rfl
 | iface h => exact key _ _ (.iface h) rfl rfl
def RNs (e : Em) (xs ys : List Value) : Prop := xs.length = ys.length ∧ ∀ (i : Nat) (x : Value), xs[i]? = some x → ∃ y, ys[i]? = some y ∧ RN e x y
theorem RNs.nil {e : Em} : RNs e [] [] := ⟨rfl, fun i x h => by simp at h⟩
theorem RNs.cons {e : Em} {x y : Value} {xs ys : List Value} (h : RN e x y) (k : RNs e xs ys) : RNs e (x :: xs) (y :: ys) :=
 ⟨by simp [k.1], fun i z hz => by cases i with
  | zero => simp at hz; subst hz; exact ⟨y, by simp, h⟩
  | succ i => simpa using k.2 i z (by simpa using hz)⟩
theorem RNs.mono {e e1 : Em} (he : e.le e1) {xs ys : List Value} (h : RNs e xs ys) : RNs e1 xs ys :=
 ⟨h.1, fun i x hx => by obtain ⟨y, hy, hv⟩ := h.2 i x hx; exact ⟨y, hy, hv.mono he⟩⟩
theorem RNs.arr {e : Em} {xs ys : Array Value} (h : RNs e xs.toList ys.toList) : xs.size = ys.size ∧ ∀ i (h1 : i < xs.size) (h2 : i < ys.size), RN e xs[i] ys[i] := by
 refine ⟨by simpa using h.1, fun i h1 h2 => ?_⟩
 obtain ⟨y, hy, hv⟩ := h.2 i xs[i] (by simp [h1])
 have : y = ys[i] := by simp [h2] at hy; exact hy.symm
 subst this; exact hv
theorem RNs.of_arr {e : Em} {xs ys : Array Value} (hs : xs.size = ys.size) (h : ∀ i (h1 : i < xs.size) (h2 : i < ys.size), RN e xs[i] ys[i]) : RNs e xs.toList ys.toList :=
 ⟨by simpa using hs, fun i x hx => by
  obtain ⟨h1, h2⟩ := List.getElem?_eq_some_iff.1 hx
  simp at h1 h2; subst h2
  exact ⟨ys[i]'(by omega), by simp [show i < ys.size by omega], h i h1 (by omega)⟩⟩
theorem RNs.append {e : Em} {xs ys us vs : List Value} (h : RNs e xs ys) (k : RNs e us vs) : RNs e (xs ++ us) (ys ++ vs) := by
 refine ⟨by simp [h.1, k.1], fun i x hx => ?_⟩
 by_cases hi : i < xs.length
 ·rw [List.getElem?_append_left hi] at hx
  rw [List.getElem?_append_left (by rw [← h.1]; exact hi)]
  exact h.2 i x hx
 ·rw [List.getElem?_append_right (by omega)] at hx
  rw [List.getElem?_append_right (by rw [← h.1]; omega), ← h.1]
  exact k.2 _ x hx
theorem RNs.drop {e : Em} {xs ys : List Value} (h : RNs e xs ys) (n : Nat) : RNs e (xs.drop n) (ys.drop n) :=
 ⟨by simp [h.1], fun i x hx => by rw [List.getElem?_drop] at hx ⊢; exact h.2 _ x hx⟩
theorem RNs.take {e : Em} {xs ys : List Value} (h : RNs e xs ys) (n : Nat) : RNs e (xs.take n) (ys.take n) :=
 ⟨by simp [h.1], fun i x hx => by
  rw [List.getElem?_take] at hx ⊢
  split at hx
  ·rw [if_pos ‹_›]; exact h.2 _ x hx
  ·cases hx⟩
theorem RNs.set {e : Em} {xs ys : List Value} (h : RNs e xs ys) (n : Nat) {v v' : Value} (hv : RN e v v') : RNs e (xs.set n v) (ys.set n v') :=
 ⟨by simp [h.1], fun i x hx => by
  rw [List.getElem?_set] at hx ⊢
  split at hx
  ·split at hx
   ·cases hx; rw [if_pos ‹_›, if_pos (by rw [← h.1]; assumption)]; exact ⟨v', rfl, hv⟩
   ·cases hx
  ·rw [if_neg ‹_›]; exact h.2 _ x hx⟩
theorem RNs.agg {e : Em} {xs ys : Array Value} (h : RNs e xs.toList ys.toList) : RN e (.agg xs) (.agg ys) := .agg h.arr.1 h.arr.2
theorem RNs.tuple {e : Em} {xs ys : Array Value} (h : RNs e xs.toList ys.toList) : RN e (.tuple xs) (.tuple ys) := .tuple h.arr.1 h.arr.2
theorem RNs.of_plain {e : Em} {l : List Value} (h : l.all plain = true) : RNs e l l :=
 ⟨rfl, fun i x hx => ⟨x, hx, .same (List.all_eq_true.1 h x (List.mem_of_getElem? hx))⟩⟩
theorem RNs.all_one {e : Em} {xs ys : List Value} (h : RNs e xs ys) (h1 : xs.all Ev.one = true) : ys.all Ev.one = true := by
 rw [List.all_eq_true]
 intro u hu
 obtain ⟨i, hi⟩ := List.mem_iff_getElem?.1 hu
 have hlt := (List.getElem?_eq_some_iff.1 hi).1
 obtain ⟨y, hy, hv⟩ := h.2 i (xs[i]'(by rw [h.1]; exact hlt)) (by simp)
 rw [hi] at hy; cases hy
 exact hv.one (List.all_eq_true.1 h1 _ (by simp))
theorem RNs.cells {e : Em} {v v' : Value} (h : RN e v v') : RNs e v.cells.toList v'.cells.toList :=
 ⟨by simpa using h.cells.1.symm, fun i x hx => by obtain ⟨y, hy, hv⟩ := h.cells.2 i x (by simpa using hx); exact ⟨y, by simpa using hy, hv⟩⟩
theorem RNs.splice {e : Em} {l l' cs cs' : List Value} (h : RNs e l l') (k : RNs e cs cs') (off : Nat) : RNs e (splice l off cs) (splice l' off cs') := by
 have hlen := k.1
 unfold Ev.splice
 match cs, cs', k, hlen with
 | [], [], _, _ => exact ((h.take _).append RNs.nil).append (h.drop _)
 | [x], [y], k, _ =>
  obtain ⟨y', hy, hv⟩ := k.2 0 x rfl
  simp at hy; subst hy
  exact h.set _ hv
 | x :: x2 :: r, y :: y2 :: r', k, hl =>
  have : (x :: x2 :: r).length = (y :: y2 :: r').length := hl
  simp only [this]
  exact ((h.take _).append k).append (h.drop _)
theorem RN.inj {e : Em} {v a : Value} (h : RN e v a) : ∀ {b : Value}, RN e v b → a = b := by
 induction h with
 | same hp => intro b hb; exact (hb.plain_eq hp).symm
 | ptr h1 => intro b hb; cases hb with
  | same hp => simp [plain] at hp
  | ptr h2 => rw [h1] at h2; cases h2; rfl
 | slice h1 => intro b hb; cases hb with
  | same hp => simp [plain] at hp
  | slice h2 => rw [h1] at h2; cases h2; rfl
  | nils h2 _ => rw [h1] at h2; cases h2
 | nils h1 _ => intro b hb; cases hb with
  | same hp => simp [plain] at hp
  | slice h2 => rw [h1] at h2; cases h2
  | nils h2 _ => rfl
 | agg hs _ ih => intro b hb; cases hb with
  | same hp => simp [plain] at hp
  | agg hs2 h2 => congr 1; exact Array.ext (hs.symm.trans hs2) fun i h3 h4 => ih i (by omega) h3 (h2 i (by omega) h4)
 | tuple hs _ ih => intro b hb; cases hb with
  | same hp => simp [plain] at hp
  | tuple hs2 h2 => congr 1; exact Array.ext (hs.symm.trans hs2) fun i h3 h4 => ih i (by omega) h3 (h2 i (by omega) h4)
 | func hs _ ht _ ih ih' => intro b hb; cases hb with
  | same hp => simp [plain] at hp
  | func hs2 h2 ht2 k2 => congr 1 <;> first | exact Array.ext (hs.symm.trans hs2) fun i h3 h4 => ih i (by omega) h3 (h2 i (by omega) h4) | exact Array.ext (ht.symm.trans ht2) fun i h3 h4 => ih' i (by omega) h3 (k2 i (by omega) h4)
 | iface _ ih => intro b hb; cases hb with
  | same hp => simp [plain] at hp
  | iface h2 => rw [ih h2]
theorem RNs.inj {e : Em} {l a b : List Value} (h : RNs e l a) (k : RNs e l b) : a = b := by
 refine List.ext_getElem (h.1.symm.trans k.1) fun i h1 h2 => ?_
 have hl : i < l.length := by rw [h.1]; exact h1
 obtain ⟨y, hy, hv⟩ := h.2 i _ (List.getElem?_eq_getElem hl)
 obtain ⟨z, hz, hw⟩ := k.2 i _ (List.getElem?_eq_getElem hl)
 rw [List.getElem?_eq_getElem h1] at hy; rw [List.getElem?_eq_getElem h2] at hz
 cases hy; cases hz
 exact hv.inj hw
structure HN (e : Em) (h H : Heap) : Prop where
 wf : ∀ b o, h.get b = some o → b < h.n
 dom : ∀ b x, e b = some x → b < h.n
 rng : ∀ b c, e b = some (some c) → c < H.n
 blk : ∀ b c o, h.get b = some o → e b = some (some c) → ∃ cs, H.get c = some ⟨cs, o.elem, o.ro⟩ ∧ RNs e o.cells cs
 gh : ∀ b o, h.get b = some o → e b = some none → o.cells = []
 inj : ∀ b1 b2 c, e b1 = some (some c) → e b2 = some (some c) → (h.get b1).isSome → (h.get b2).isSome → b1 = b2
structure Ex (e e1 : Em) (h H h1 H1 : Heap) : Prop where
 le : e.le e1
 new : ∀ b x, e1 b = some x → e b = some x ∨ (h.n ≤ b ∧ ∀ c, x = some c → H.n ≤ c ∨ ∃ b0, e b0 = some (some c) ∧ (h.get b0).isSome ∧ h1.get b0 = none)
 hn : h.n ≤ h1.n
 Hn : H.n ≤ H1.n
 keep : ∀ c, c < H.n → (∀ b, e b = some (some c) → h.get b = none) → H1.get c = H.get c
 lv : ∀ b, b < h.n → h.get b = none → h1.get b = none
theorem Em.le_refl (e : Em) : e.le e := fun _ _ h => h
theorem Ex.refl (e : Em) (h H : Heap) : Ex e e h H h H := ⟨fun _ _ h => h, fun _ _ h => .inl h, Nat.le_refl _, Nat.le_refl _, fun _ _ _ => rfl, fun _ _ h => h⟩
theorem Ex.trans {e e1 e2 : Em} {h H h1 H1 h2 H2 : Heap} (hn : HN e h H) (a : Ex e e1 h H h1 H1) (b : Ex e1 e2 h1 H1 h2 H2) : Ex e e2 h H h2 H2 where
 le := fun x y k => b.le _ _ (a.le _ _ k)
 new := fun x y k => by
  rcases b.new x y k with k | ⟨k1, k2⟩
  ·rcases a.new x y k with k | ⟨k3, k4⟩
   ·exact .inl k
   ·exact .inr ⟨k3, fun c q => (k4 c q).imp id fun ⟨b0, g1, g2, g3⟩ => ⟨b0, g1, g2, b.lv b0 (Nat.lt_of_lt_of_le (hn.dom _ _ g1) a.hn) g3⟩⟩
  ·refine .inr ⟨Nat.le_trans a.hn k1, fun c q => ?_⟩
   rcases k2 c q with k2 | ⟨b0, g1, g2, g3⟩
   ·exact .inl (Nat.le_trans a.Hn k2)
   ·rcases a.new b0 _ g1 with g4 | ⟨_, g4⟩
    ·refine .inr ⟨b0, g4, ?_, g3⟩
     cases g5 : h.get b0 with
     | some _ => rfl
     | none => rw [a.lv b0 (hn.dom _ _ g4) g5] at g2; cases g2
    ·rcases g4 c rfl with g4 | ⟨b1, g5, g6, g7⟩
     ·exact .inl g4
     ·exact .inr ⟨b1, g5, g6, b.lv b1 (Nat.lt_of_lt_of_le (hn.dom _ _ g5) a.hn) g7⟩
 hn := Nat.le_trans a.hn b.hn
 Hn := Nat.le_trans a.Hn b.Hn
 keep := fun c hc hk => by
  refine (b.keep c (Nat.lt_of_lt_of_le hc a.Hn) fun x hx => ?_).trans (a.keep c hc hk)
  rcases a.new x _ hx with k | ⟨_, k2⟩
  ·exact a.lv x (hn.dom x _ k) (hk x k)
  ·rcases k2 c rfl with k2 | ⟨b0, g1, g2, _⟩
   ·omega
   ·rw [hk b0 g1] at g2; cases g2
 lv := fun x hx k => b.lv x (Nat.lt_of_lt_of_le hx a.hn) (a.lv x hx k)
def Em.add (e : Em) (b c : Nat) : Em := fun x => if x = b then some (some c) else e x
theorem HN.push {e : Em} {h H : Heap} (hn : HN e h H) {o O : Ob} (he : O.elem = o.elem) (hr : O.ro = o.ro) (hc : RNs e o.cells O.cells) :
    HN (e.add h.n H.n) (h.push o) (H.push O) ∧ Ex e (e.add h.n H.n) h H (h.push o) (H.push O) := by
 have hen : e h.n = none := by
  cases k : e h.n with
  | none => rfl
  | some x => exact absurd (hn.dom _ _ k) (by omega)
 have hle : e.le (e.add h.n H.n) := fun x y k => by
  unfold Em.add
  split
  ·rename_i q; rw [q, hen] at k; cases k
  ·exact k
 have hcase : ∀ b x, (e.add h.n H.n) b = some x → (b = h.n ∧ x = some H.n) ∨ (b ≠ h.n ∧ e b = some x) := by
  intro b x k
  unfold Em.add at k
  split at k
  ·rename_i q; cases k; exact .inl ⟨q, rfl⟩
  ·rename_i q; exact .inr ⟨q, k⟩
 refine ⟨⟨fun b o' k => ?_, fun b x k => ?_, fun b c k => ?_, fun b c o' k1 k2 => ?_, fun b o' k1 k2 => ?_, fun b1 b2 c k1 k2 k3 k4 => ?_⟩, ⟨hle, fun b x k => ?_, by simp [Heap.n_push], by simp [Heap.n_push], fun c hc _ => by rw [Heap.get_push, if_neg (by omega)], fun b hb k => by rw [Heap.get_push, if_neg (by omega)]; exact k⟩⟩
 ·rw [Heap.get_push] at k
  rw [Heap.n_push]
  split at k
  ·omega
  ·have := hn.wf _ _ k; omega
 ·rw [Heap.n_push]
  rcases hcase b x k with ⟨rfl, _⟩ | ⟨_, k⟩
  ·omega
  ·have := hn.dom _ _ k; omega
 ·rw [Heap.n_push]
  rcases hcase b _ k with ⟨_, k⟩ | ⟨_, k⟩
  ·cases k; omega
  ·have := hn.rng _ _ k; omega
 ·rw [Heap.get_push] at k1
  rcases hcase b _ k2 with ⟨rfl, k⟩ | ⟨q, k⟩
  ·cases k
   rw [if_pos rfl] at k1
   cases k1
   exact ⟨O.cells, by rw [Heap.get_push, if_pos rfl, ← he, ← hr], hc.mono hle⟩
  ·rw [if_neg q] at k1
   obtain ⟨cs, g1, g2⟩ := hn.blk b c o' k1 k
   have := hn.rng _ _ k
   exact ⟨cs, by rw [Heap.get_push, if_neg (by omega)]; exact g1, g2.mono hle⟩
 ·rw [Heap.get_push] at k1
  rcases hcase b _ k2 with ⟨rfl, k⟩ | ⟨q, k⟩
  ·cases k
  ·rw [if_neg q] at k1; exact hn.gh b o' k1 k
 ·rw [Heap.get_push] at k3 k4
  rcases hcase b1 _ k1 with ⟨rfl, k⟩ | ⟨q, k⟩
  ·cases k
   rcases hcase b2 _ k2 with ⟨rfl, k⟩ | ⟨q, k⟩
   ·rfl
   ·have := hn.rng _ _ k; omega
  ·rcases hcase b2 _ k2 with ⟨rfl, k'⟩ | ⟨q', k'⟩
   ·cases k'; have := hn.rng _ _ k; omega
   ·rw [if_neg q] at k3; rw [if_neg q'] at k4
    exact hn.inj b1 b2 c k k' k3 k4
 ·rcases hcase b x k with ⟨rfl, rfl⟩ | ⟨_, k⟩
  ·exact .inr ⟨Nat.le_refl _, fun c q => by cases q; exact .inl (Nat.le_refl _)⟩
  ·exact .inl k
theorem HN.put {e : Em} {h H : Heap} (hn : HN e h H) {b c : Nat} {o : Ob} (hb : h.get b = some o) (hc : e b = some (some c)) {l L : List Value} (hr : RNs e l L) (el : TypeId) (ro : Bool) :
    HN e (h.put b ⟨l, el, ro⟩) (H.put c ⟨L, el, ro⟩) ∧ Ex e e h H (h.put b ⟨l, el, ro⟩) (H.put c ⟨L, el, ro⟩) := by
 refine ⟨⟨fun x o' k => ?_, hn.dom, hn.rng, fun x y o' k1 k2 => ?_, fun x o' k1 k2 => ?_, fun b1 b2 c' k1 k2 k3 k4 => ?_⟩, ⟨fun _ _ k => k, fun _ _ k => .inl k, Nat.le_refl _, Nat.le_refl _, fun c' hc' hk => ?_, fun x hx k => ?_⟩⟩
 ·rw [Heap.get_put] at k
  split at k
  ·rename_i q; rw [q]; exact hn.wf _ _ hb
  ·exact hn.wf _ _ k
 ·rw [Heap.get_put] at k1
  by_cases q : x = b
  ·rw [if_pos q] at k1; cases k1
   rw [q, hc] at k2; cases k2
   exact ⟨L, by rw [Heap.get_put, if_pos rfl], hr⟩
  ·rw [if_neg q] at k1
   obtain ⟨cs, g1, g2⟩ := hn.blk x y o' k1 k2
   refine ⟨cs, ?_, g2⟩
   rw [Heap.get_put, if_neg fun q2 => q ?_]
   ·exact g1
   ·rw [q2] at k2
    exact hn.inj _ _ _ k2 hc (by rw [k1]; rfl) (by rw [hb]; rfl)
 ·rw [Heap.get_put] at k1
  by_cases q : x = b
  ·rw [q, hc] at k2; cases k2
  ·rw [if_neg q] at k1; exact hn.gh x o' k1 k2
 ·refine hn.inj b1 b2 c' k1 k2 ?_ ?_
  ·rw [Heap.get_put] at k3; split at k3
   ·rename_i q; rw [q, hb]; rfl
   ·exact k3
  ·rw [Heap.get_put] at k4; split at k4
   ·rename_i q; rw [q, hb]; rfl
   ·exact k4
 ·rw [Heap.get_put, if_neg]
  intro q
  have := hk b (by rw [hc, q])
  rw [hb] at this; cases this
 ·rw [Heap.get_put, if_neg]
  ·exact k
  ·intro q; rw [q, hb] at k; cases k
theorem HN.kill {e : Em} {h H : Heap} (hn : HN e h H) {b c : Nat} {o : Ob} (hb : h.get b = some o) (hc : e b = some (some c)) :
    HN e (h.kill b) (H.kill c) ∧ Ex e e h H (h.kill b) (H.kill c) := by
 refine ⟨⟨fun x o' k => ?_, hn.dom, hn.rng, fun x y o' k1 k2 => ?_, fun x o' k1 k2 => ?_, fun b1 b2 c' k1 k2 k3 k4 => ?_⟩, ⟨fun _ _ k => k, fun _ _ k => .inl k, Nat.le_refl _, Nat.le_refl _, fun c' hc' hk => ?_, fun x hx k => ?_⟩⟩
 ·rw [Heap.get_kill] at k
  split at k
  ·cases k
  ·exact hn.wf _ _ k
 ·rw [Heap.get_kill] at k1
  by_cases q : x = b
  ·rw [if_pos q] at k1; cases k1
  ·rw [if_neg q] at k1
   obtain ⟨cs, g1, g2⟩ := hn.blk x y o' k1 k2
   refine ⟨cs, ?_, g2⟩
   rw [Heap.get_kill, if_neg fun q2 => q ?_]
   ·exact g1
   ·rw [q2] at k2
    exact hn.inj _ _ _ k2 hc (by rw [k1]; rfl) (by rw [hb]; rfl)
 ·rw [Heap.get_kill] at k1
  split at k1
  ·cases k1
  ·exact hn.gh x o' k1 k2
 ·refine hn.inj b1 b2 c' k1 k2 ?_ ?_
  ·rw [Heap.get_kill] at k3; split at k3
   ·cases k3
   ·exact k3
  ·rw [Heap.get_kill] at k4; split at k4
   ·cases k4
   ·exact k4
 ·rw [Heap.get_kill, if_neg]
  intro q
  have := hk b (by rw [hc, q])
  rw [hb] at this; cases this
 ·rw [Heap.get_kill]
  split
  ·rfl
  ·exact k
theorem HN.kill0 {e : Em} {h H : Heap} (hn : HN e h H) (b : Nat) : HN e (h.kill b) H ∧ Ex e e h H (h.kill b) H := by
 refine ⟨⟨fun x o' k => ?_, hn.dom, hn.rng, fun x y o' k1 k2 => ?_, fun x o' k1 k2 => ?_, fun b1 b2 c' k1 k2 k3 k4 => ?_⟩, ⟨fun _ _ k => k, fun _ _ k => .inl k, Nat.le_refl _, Nat.le_refl _, fun _ _ _ => rfl, fun x hx k => ?_⟩⟩
 ·rw [Heap.get_kill] at k; split at k
  ·cases k
  ·exact hn.wf _ _ k
 ·rw [Heap.get_kill] at k1; split at k1
  ·cases k1
  ·exact hn.blk x y o' k1 k2
 ·rw [Heap.get_kill] at k1; split at k1
  ·cases k1
  ·exact hn.gh x o' k1 k2
 ·refine hn.inj b1 b2 c' k1 k2 ?_ ?_
  ·rw [Heap.get_kill] at k3; split at k3
   ·cases k3
   ·exact k3
  ·rw [Heap.get_kill] at k4; split at k4
   ·cases k4
   ·exact k4
 ·rw [Heap.get_kill]; split
  ·rfl
  ·exact k
end Go.Ev
end
section
namespace Go.Ev
open Go
set_option linter.unusedVariables false
set_option linter.unusedSimpArgs false
def mn : Value → Bool | .slice (some _) 0 _ => true | _ => false
section
variable {P : Program} {T : Tab} {e : Em} {h H : Heap}
theorem apart_rn {t : TypeId} {xs ys : Array Value} {off : Nat} {v : Value} (hv : apart T t xs off = some v) (hr : RNs e xs.toList ys.toList) : ∃ v', apart T t ys off = some v' ∧ RN e v v' := by
 unfold apart at hv ⊢
 split at hv
 ·rename_i d n hd hn
  try simp only [hd, hn]
  cases hr' : isRow d
  ·rw [hr'] at hv
   simp only [cond_false] at hv ⊢
   obtain ⟨y, hy, hvy⟩ := hr.2 off v (by simpa using hv)
   exact ⟨y, by simpa using hy, hvy⟩
  ·rw [hr'] at hv
   simp only [cond_true] at hv ⊢
   cases hv
   refine ⟨_, rfl, RNs.agg ?_⟩
   have := (hr.take (off + n)).drop off
   simpa [Array.toList_extract, List.extract_eq_take_drop, List.drop_take] using this
 ·cases hv
theorem aload_rn {t : TypeId} {v u u' : Value} (hv : aload T t u h = some v) (hn : HN e h H) (hu : RN e u u') : ∃ v', aload T t u' H = some v' ∧ RN e v v' := by
 unfold aload at hv
 split at hv
 ·rename_i b off
  split at hv
  ·rename_i o d n ho hd hn'
   cases hu with
   | same q => simp [plain] at q
   | ptr hb =>
    obtain ⟨cs, g1, g2⟩ := hn.blk _ _ _ ho hb
    simp only [aload, g1, hd, hn']
    cases hd' : isRow d
    ·rw [hd'] at hv
     simp only [cond_false] at hv ⊢
     exact g2.2 off v hv
    ·rw [hd'] at hv
     simp only [cond_true] at hv ⊢
     have hv2 := (g2.drop off).take n
     rw [← hv2.1]
     cases hlen : ((o.cells.drop off).take n).length.beq n
     ·rw [hlen] at hv; cases hv
     rw [hlen] at hv
     cases hv
     exact ⟨_, rfl, RNs.agg (by simpa using hv2)⟩
  ·cases hv
 ·cases hv
theorem aput_rn {b c off : Nat} {cs cs' : List Value} {h1 : Heap} (hv : aput b off cs h = some h1) (hn : HN e h H) (hb : e b = some (some c)) (hc : RNs e cs cs') :
    ∃ H1, aput c off cs' H = some H1 ∧ HN e h1 H1 ∧ Ex e e h H h1 H1 := by
 unfold aput at hv ⊢
 split at hv
 ·rename_i o ho
  obtain ⟨l, g1, g2⟩ := hn.blk _ _ _ ho hb
  try simp only [g1]
  cases hcnd : (!o.ro && cs.all one && (off + cs.length).ble o.cells.length)
  ·rw [hcnd] at hv; cases hv
  ·rw [hcnd] at hv
   cases hv
   simp only [Bool.and_eq_true] at hcnd
   rw [hc.all_one hcnd.1.2, ← hc.1, ← g2.1, hcnd.2, hcnd.1.1]
   simp only [Bool.and_self, cond_true]
   obtain ⟨k1, k2⟩ := hn.put ho hb (g2.splice hc off) o.elem false
   exact ⟨_, rfl, k1, k2⟩
 ·cases hv
theorem astore_rn {t : TypeId} {u u' x x' : Value} {h1 : Heap} (hv : astore T t u x h = some h1) (hn : HN e h H) (hu : RN e u u') (hx : RN e x x') :
    ∃ H1, astore T t u' x' H = some H1 ∧ HN e h1 H1 ∧ Ex e e h H h1 H1 := by
 unfold astore at hv
 split at hv
 ·rename_i b off
  split at hv
  ·rename_i n hn'
   cases hc : x.cells.size.beq n
   ·rw [hc] at hv; cases hv
   ·rw [hc] at hv
    simp only [cond_true] at hv
    cases hu with
    | same q => simp [plain] at q
    | ptr hb =>
     simp only [astore, hn', hx.cells.1, hc, cond_true]
     exact aput_rn hv hn hb (RNs.cells hx)
  ·cases hv
 ·cases hv
theorem ibin_plain {op : BinOp} {k : IntKind} {a b : Int} {r : Value} (hv : ibin op k a b = some r) : plain r = true := by
 unfold ibin at hv
 split at hv <;> first | (cases hv; done) | (cases hv; rfl) | (cases hq : (b == 0) <;> rw [hq] at hv <;> cases hv; rfl)
theorem ishift_plain {op : BinOp} {k : IntKind} {a b : Int} {r : Value} (hv : ishift op k a b = some r) : plain r = true := by
 unfold ishift at hv
 cases hq : decide (b < 0)
 ·rw [hq] at hv
  simp only [cond_false] at hv
  split at hv <;> cases hv <;> rfl
 ·rw [hq] at hv; cases hv
theorem abin_rn {op : BinOp} {t : TypeId} {u u' v v' r : Value} (hv : abin T op t u v = some r) (hu : RN e u u') (hw : RN e v v') (mu : mn u = false) (mv : mn v = false) :
    abin T op t u' v' = some r ∧ plain r = true := by
 have hpl : plain r = true := by
  unfold abin at hv
  split at hv
  ·rename_i k a k' b
   cases hs : isShift op
   ·rw [hs] at hv
    simp only [cond_false] at hv
    cases hk : (k == k')
    ·rw [hk] at hv; cases hv
    ·rw [hk] at hv; exact ibin_plain hv
   ·rw [hs] at hv; exact ishift_plain hv
  all_goals first | (split at hv <;> first | (cases hv; rfl) | cases hv) | cases hv
 refine ⟨?_, hpl⟩
 cases hu with
 | same hp =>
  cases hw with
  | same hq => exact hv
  | ptr hb => cases u <;> first | exact hv | (simp [plain] at hp; done) | (simp [abin] at hv; done) | (rename_i a; cases a <;> first | exact hv | (simp [plain] at hp; done) | (simp [abin] at hv; done)) | (rename_i a _ _; cases a <;> first | exact hv | (simp [plain] at hp; done) | (simp [abin] at hv; done))
  | slice hb =>
   rename_i b off c n cap
   cases n with
   | zero => simp [mn] at mv
   | succ n => cases u <;> first | exact hv | (simp [plain] at hp; done) | (simp [abin] at hv; done) | (rename_i a; cases a <;> first | exact hv | (simp [plain] at hp; done) | (simp [abin] at hv; done)) | (rename_i a _ _; cases a <;> first | exact hv | (simp [plain] at hp; done) | (simp [abin] at hv; done))
  | nils hb hc => simp [mn] at mv
  | agg => cases u <;> first | (simp [abin] at hv; done) | (simp [plain] at hp; done) | (rename_i a; cases a <;> first | exact hv | (simp [plain] at hp; done) | (simp [abin] at hv; done)) | (rename_i a _ _; cases a <;> first | exact hv | (simp [plain] at hp; done) | (simp [abin] at hv; done))
  | tuple => cases u <;> first | (simp [abin] at hv; done) | (simp [plain] at hp; done) | (rename_i a; cases a <;> first | exact hv | (simp [plain] at hp; done) | (simp [abin] at hv; done)) | (rename_i a _ _; cases a <;> first | exact hv | (simp [plain] at hp; done) | (simp [abin] at hv; done))
  | func => cases u <;> first | (simp [abin] at hv; done) | (simp [plain] at hp; done) | (rename_i a; cases a <;> first | exact hv | (simp [plain] at hp; done) | (simp [abin] at hv; done)) | (rename_i a _ _; cases a <;> first | exact hv | (simp [plain] at hp; done) | (simp [abin] at hv; done))
  | iface => cases u <;> first | (simp [abin] at hv; done) | (simp [plain] at hp; done) | (rename_i a; cases a <;> first | exact hv | (simp [plain] at hp; done) | (simp [abin] at hv; done)) | (rename_i a _ _; cases a <;> first | exact hv | (simp [plain] at hp; done) | (simp [abin] at hv; done))
 | ptr hb =>
  cases hw with
  | same hq => cases v <;> first | exact hv | (simp [plain] at hq; done) | (simp [abin] at hv; done) | (rename_i a; cases a <;> first | exact hv | (simp [plain] at hq; done) | (simp [abin] at hv; done)) | (rename_i a _ _; cases a <;> first | exact hv | (simp [plain] at hq; done) | (simp [abin] at hv; done))
  | ptr hb2 => simp [abin] at hv
  | _ => simp [abin] at hv
 | slice hb =>
  cases hw with
  | same hq => cases v <;> first | exact hv | (simp [plain] at hq; done) | (simp [abin] at hv; done) | (rename_i a; cases a <;> first | exact hv | (simp [plain] at hq; done) | (simp [abin] at hv; done)) | (rename_i a _ _; cases a <;> first | exact hv | (simp [plain] at hq; done) | (simp [abin] at hv; done))
  | _ => simp [abin] at hv
 | nils hb hc => simp [mn] at mu
 | _ => simp [abin] at hv
theorem afield_rn {s : TypeId} {f : Nat} {v u u' : Value} (hv : afield T s u f = some v) (hu : RN e u u') : ∃ v', afield T s u' f = some v' ∧ RN e v v' := by
 unfold afield at hv
 split at hv
 ·rename_i b off fields hs
  cases hu with
  | same q => simp [plain] at q
  | ptr hb =>
   simp only [afield, hs]
   split at hv
   ·rename_i fd hfd
    try simp only [hfd]
    split at hv
    ·rename_i n hn
     cases hv
     try simp only [hn]
     exact ⟨_, rfl, .ptr hb⟩
    ·cases hv
   ·cases hv
 ·cases hv
theorem aindexAddr_rn {t : TypeId} {v u u' i i' : Value} (hv : aindexAddr T t u i = some v) (hu : RN e u u') (hi : RN e i i') : ∃ v', aindexAddr T t u' i' = some v' ∧ RN e v v' := by
 unfold aindexAddr at hv
 split at hv
 ·rename_i k n
  cases hi.plain_eq rfl
  unfold aindexAddr
  simp only
  split at hv
  ·rename_i el b off len cap hs
   split at hv
   ·rename_i sz hsz
    cases hb : n.blt len
    ·rw [hb] at hv; cases hv
    rw [hb] at hv
    cases hv
    cases hu with
    | same q => simp [plain] at q
    | slice hm =>
     simp only [hs, hsz, hb, cond_true]
     exact ⟨_, rfl, .ptr hm⟩
    | nils hm hc => cases hb
   ·cases hv
  ·rename_i len el b off hs
   split at hv
   ·rename_i sz hsz
    cases hb : n.blt len
    ·rw [hb] at hv; cases hv
    rw [hb] at hv
    cases hv
    cases hu with
    | same q => simp [plain] at q
    | ptr hm =>
     simp only [hs, hsz, hb, cond_true]
     exact ⟨_, rfl, .ptr hm⟩
   ·cases hv
  ·cases hv
 ·cases hv
theorem aindex_rn {t : TypeId} {v u u' i i' : Value} (hv : aindex T t u i = some v) (hu : RN e u u') (hi : RN e i i') : ∃ v', aindex T t u' i' = some v' ∧ RN e v v' := by
 unfold aindex at hv
 split at hv
 ·rename_i k n
  cases hi.plain_eq rfl
  unfold aindex
  simp only
  split at hv
  ·rename_i len el cs hs
   split at hv
   ·rename_i sz hsz
    cases hb : n.blt len
    ·rw [hb] at hv; cases hv
    rw [hb] at hv
    cases hu with
    | same q => simp [plain] at q
    | agg hs2 h2 =>
     simp only [hs, hsz, hb, cond_true]
     exact apart_rn hv (RNs.of_arr hs2 h2)
   ·cases hv
  ·cases hv
 ·cases hv
def RNo (e : Em) : Option Value → Option Value → Prop
 | none, none => True
 | some v, some v' => RN e v v'
 | _, _ => False
def bnd (d : Nat) : Option Value → Option Nat
 | none => some d
 | some (.int _ (.ofNat l)) => some l
 | _ => none
theorem RNo.bound {o o' : Option Value} (ho : RNo e o o') (d : Nat) {l : Nat} (hl : bnd d o = some l) : o' = o := by
 cases o with
 | none => cases o' with
  | none => rfl
  | some _ => exact ho.elim
 | some v => cases o' with
  | none => exact ho.elim
  | some v' =>
   have : plain v = true := by
    unfold bnd at hl
    split at hl
    ·rename_i q; cases q
    ·rename_i q; cases q; rfl
    ·cases hl
   rw [RN.plain_eq ho this]
theorem aslice_rn {t : TypeId} {u u' v : Value} {lo hi mx lo' hi' mx' : Option Value} (hv : aslice T t u lo hi mx = some v) (hu : RN e u u') (hlo : RNo e lo lo') (hhi : RNo e hi hi') (hmx : RNo e mx mx') :
    ∃ v', aslice T t u' lo' hi' mx' = some v' ∧ RN e v v' := by
 unfold aslice at hv
 split at hv
 ·cases hv
 cases mx' with
 | some _ => exact hmx.elim
 | none =>
 split at hv
 ·rename_i el a len cap hs
  split at hv
  ·rename_i size l hb hsz hl hh
   have e1 := hlo.bound _ hl
   have e2 := hhi.bound _ hh
   subst e1 e2
   cases hle : l.ble hb
   ·rw [hle] at hv; cases hv
   rw [hle] at hv
   simp only [cond_true] at hv
   cases hu with
   | same q =>
    refine ⟨v, by unfold aslice; simp only [hs, hsz, hl, hh, hle, cond_true]; exact hv, ?_⟩
    cases a with
    | some a => simp [plain] at q
    | none =>
     cases hun : unk.ble cap
     ·rw [hun] at hv
      simp only [cond_false] at hv
      cases hhc : hb.ble cap
      ·rw [hhc] at hv; cases hv
      rw [hhc] at hv
      cases hv
      refine .same ?_
      cases hcl : cap.beq l <;> rfl
     ·rw [hun] at hv; cases hv
   | slice hm =>
    rename_i b off c
    cases hun : unk.ble cap
    ·rw [hun] at hv
     simp only [cond_false] at hv
     cases hhc : hb.ble cap
     ·rw [hhc] at hv; cases hv
     rw [hhc] at hv
     simp only [cond_true] at hv
     unfold aslice
     simp only [hs, hsz, hl, hh, hle, hun, hhc, cond_true, cond_false]
     cases hcl : cap.beq l
     ·rw [hcl] at hv; cases hv
      exact ⟨_, rfl, by simp only [cond_false, Option.map_some, Addr.add_mid]; exact .slice hm⟩
     ·rw [hcl] at hv; cases hv
      exact ⟨_, rfl, show RN e (.slice (some ⟨b, off, none⟩) _ _) (.slice (some ⟨c, off, none⟩) _ _) from .slice hm⟩
    ·rw [hun] at hv
     simp only [cond_true] at hv
     cases hc2 : (hb.ble len && cap.beq (unk + size))
     ·rw [hc2] at hv; cases hv
     rw [hc2] at hv
     cases hv
     unfold aslice
     simp only [hs, hsz, hl, hh, hle, hun, hc2, cond_true]
     exact ⟨_, rfl, .slice hm⟩
   | nils hm hc =>
    rename_i b off
    have hun : unk.ble cap = true := (fun h => Nat.ble_eq_true_of_le h) hc
    rw [hun] at hv
    simp only [cond_true] at hv
    cases hc2 : (hb.ble 0 && cap.beq (unk + size))
    ·rw [hc2] at hv; cases hv
    rw [hc2] at hv
    cases hv
    simp only [Bool.and_eq_true, Nat.ble_eq, Nat.beq_eq] at hc2
    have h0 : hb = 0 := by omega
    have hl0 : l = 0 := by have := Nat.le_of_ble_eq_true hle; omega
    subst h0 hl0
    unfold aslice
    have hu0 : unk.ble 0 = false := by decide
    refine ⟨.slice none 0 0, ?_, ?_⟩
    ·simp only [hs, hsz, hl, hu0, cond_false]
     cases hi' with
     | none => rfl
     | some v =>
      cases v with
      | int k z => cases z with
       | ofNat m => have : m = 0 := Option.some.inj hh
                    subst this; rfl
       | negSucc m => cases hh
      | _ => cases hh
    ·exact RN.nils (off := off + 0 * size) hm (by omega)
  ·cases hv
 ·rename_i n el b off hs
  split at hv
  ·rename_i size l hb hsz hl hh
   have e1 := hlo.bound _ hl
   have e2 := hhi.bound _ hh
   subst e1 e2
   cases hc : (l.ble hb && hb.ble n && n.blt unk)
   ·rw [hc] at hv; cases hv
   rw [hc] at hv
   cases hv
   cases hu with
   | same q => simp [plain] at q
   | ptr hm =>
    rename_i c
    unfold aslice
    simp only [hs, hsz, hl, hh, hc, cond_true]
    cases hnl : n.beq l
    ·exact ⟨_, rfl, by simp only [cond_false, Addr.add_mid]; exact .slice hm⟩
    ·exact ⟨_, rfl, show RN e (.slice (some ⟨b, off, none⟩) _ _) (.slice (some ⟨c, off, none⟩) _ _) from .slice hm⟩
  ·cases hv
 ·cases hv
inductive RNp (e : Em) : List (Nat × Value) → List (Nat × Value) → Prop where
 | nil : RNp e [] []
 | cons {i : Nat} {v v' : Value} {l l' : List (Nat × Value)} (h : RN e v v') (k : RNp e l l') : RNp e ((i, v) :: l) ((i, v') :: l')
theorem foldset_rn (off : Nat) : ∀ (l l' : List Value) (k : Nat) (cells cells' : Array Value), RNs e l l' → RNs e cells.toList cells'.toList →
    RNs e ((l.zipIdx k).foldl (fun cs (p : Value × Nat) => cs.setIfInBounds (off + p.2) p.1) cells).toList ((l'.zipIdx k).foldl (fun cs (p : Value × Nat) => cs.setIfInBounds (off + p.2) p.1) cells').toList := by
 intro l
 induction l with
 | nil =>
  intro l' k cells cells' h hc
  have : l' = [] := List.eq_nil_of_length_eq_zero (by have := h.1; simp at this; exact this.symm)
  subst this
  simpa using hc
 | cons x l ih =>
  intro l' k cells cells' h hc
  cases l' with
  | nil => have := h.1; simp at this
  | cons y l' =>
   obtain ⟨y', hy, hv⟩ := h.2 0 x (by simp)
   simp at hy
   subst hy
   simp only [List.zipIdx_cons, List.foldl_cons]
   refine ih l' (k + 1) _ _ ⟨by have := h.1; simpa using this, fun i z hz => by simpa using h.2 (i + 1) z (by simpa using hz)⟩ ?_
   rw [Array.toList_setIfInBounds, Array.toList_setIfInBounds]
   exact hc.set _ hv
theorem fill_rn {place : Nat → Option (Nat × Nat)} : ∀ (parts parts' : List (Nat × Value)) (cells cells' r : Array Value), Instr.fill place cells parts = some r → RNs e cells.toList cells'.toList → RNp e parts parts' →
    ∃ r', Instr.fill place cells' parts' = some r' ∧ RNs e r.toList r'.toList := by
 intro parts
 induction parts with
 | nil =>
  intro parts' cells cells' r h hc hp
  cases hp
  simp only [Instr.fill] at h ⊢
  cases h
  exact ⟨_, rfl, hc⟩
 | cons p parts ih =>
  intro parts' cells cells' r h hc hp
  cases hp with
  | cons hv hk =>
   rename_i i v v' l'
   simp only [Instr.fill] at h ⊢
   split at h
   ·cases h
   ·rename_i off size hpl
    simp only [hv.cells.1, ← show cells.size = cells'.size by simpa using hc.1]
    split at h
    ·cases h
    ·rename_i hcond
     rw [if_neg hcond]
     refine ih l' _ _ r h ?_ hk
     have := foldset_rn (e := e) off v.cells.toList v'.cells.toList 0 cells cells' (RNs.cells hv) hc
     rw [← Array.foldl_toList, ← Array.foldl_toList, Array.toList_zipIdx, Array.toList_zipIdx]
     exact this
theorem closed_rns {z : Value} (hz : closed z = true) : RNs e z.cells.toList z.cells.toList := RNs.cells (RN.of_closed hz)
theorem zeros_rns {z : List Value} (hz : RNs e z z) (n : Nat) : RNs e (zerosOf z n) (zerosOf z n) := by
 refine ⟨rfl, fun i x hx => ⟨x, hx, ?_⟩⟩
 have hm : x ∈ z := by
  have := List.mem_of_getElem? hx
  unfold zerosOf at this
  split at this
  ·have := List.eq_of_mem_replicate this; subst this; simp
  ·obtain ⟨l, h1, h2⟩ := List.mem_flatten.1 this
   have := List.eq_of_mem_replicate h1; subst this; exact h2
 obtain ⟨j, hj⟩ := List.mem_iff_getElem?.1 hm
 obtain ⟨y, hy, hv⟩ := hz.2 j x hj
 rw [hj] at hy; cases hy
 exact hv
theorem abuild_rn {t : TypeId} {parts parts' : List (Nat × Value)} {v : Value} (hv : abuild T t parts = some v) (hp : RNp e parts parts') : ∃ v', abuild T t parts' = some v' ∧ RN e v v' := by
 unfold abuild at hv ⊢
 split at hv
 ·rename_i fields z hs hz
  try simp only [hs, hz]
  cases hc : closed z
  ·rw [hc] at hv; cases hv
  rw [hc] at hv
  simp only [cond_true] at hv ⊢
  split at hv
  ·rename_i ps hps
   try simp only [hps]
   split at hv
   ·rename_i cs hcs
    cases hv
    obtain ⟨r', g1, g2⟩ := fill_rn _ _ _ _ _ hcs (closed_rns hc) hp
    try simp only [g1]
    exact ⟨_, rfl, RNs.agg g2⟩
   ·cases hv
  ·cases hv
 ·rename_i n el z hs hz
  try simp only [hs, hz]
  cases hc : closed z
  ·rw [hc] at hv; cases hv
  rw [hc] at hv
  simp only [cond_true] at hv ⊢
  split at hv
  ·rename_i size hsz
   try simp only [hsz]
   split at hv
   ·rename_i cs hcs
    cases hv
    obtain ⟨r', g1, g2⟩ := fill_rn _ _ _ _ _ hcs (closed_rns hc) hp
    try simp only [g1]
    exact ⟨_, rfl, RNs.agg g2⟩
   ·cases hv
  ·cases hv
 ·cases hv
def Mk1 (e : Em) (h H : Heap) (v : Value) (h1 : Heap) (v' : Value) (H1 : Heap) : Prop := ∃ e1, HN e1 h1 H1 ∧ Ex e e1 h H h1 H1 ∧ RN e1 v v'
theorem HN.mk_ptr (hn : HN e h H) {o O : Ob} (he : O.elem = o.elem) (hr : O.ro = o.ro) (hc : RNs e o.cells O.cells) : Mk1 e h H (.pointer (some ⟨h.n, 0, none⟩)) (h.push o) (.pointer (some ⟨H.n, 0, none⟩)) (H.push O) := by
 obtain ⟨h1, h2⟩ := hn.push he hr hc
 exact ⟨_, h1, h2, .ptr (by simp [Em.add])⟩
theorem HN.mk_sl (hn : HN e h H) {o O : Ob} (he : O.elem = o.elem) (hr : O.ro = o.ro) (hc : RNs e o.cells O.cells) (n cap : Nat) : Mk1 e h H (.slice (some ⟨h.n, 0, none⟩) n cap) (h.push o) (.slice (some ⟨H.n, 0, none⟩) n cap) (H.push O) := by
 obtain ⟨h1, h2⟩ := hn.push he hr hc
 exact ⟨_, h1, h2, .slice (by simp [Em.add])⟩
theorem abuildSlice_rn {t : TypeId} {len : Nat} {parts parts' : List (Nat × Value)} {v : Value} {h1 : Heap} (hv : abuildSlice T t len parts h = some (v, h1)) (hn : HN e h H) (hp : RNp e parts parts') :
    ∃ v' H1, abuildSlice T t len parts' H = some (v', H1) ∧ Mk1 e h H v h1 v' H1 := by
 unfold abuildSlice at hv ⊢
 split at hv
 ·rename_i el hs
  try simp only [hs]
  split at hv
  ·rename_i s z hsz hz
   try simp only [hsz, hz]
   cases hc : ((len * (s + 1)).ble 16777216 && closed z && z.cells.size.beq (s + 1))
   ·rw [hc] at hv; cases hv
   rw [hc] at hv
   simp only [cond_true] at hv ⊢
   simp only [Bool.and_eq_true] at hc
   split at hv
   ·rename_i cs hcs
    cases hv
    obtain ⟨r', g1, g2⟩ := fill_rn _ _ _ _ _ hcs (zeros_rns (closed_rns hc.1.2) len) hp
    have g1' : Instr.fill (fun i => some (i * (s + 1), s + 1)) (zerosOf z.cells.toList len).toArray parts' = some r' := g1
    simp only [g1']
    exact ⟨_, _, rfl, hn.mk_sl (o := ⟨cs.toList, el, false⟩) (O := ⟨r'.toList, el, false⟩) rfl rfl g2 _ _⟩
   ·cases hv
  ·cases hv
 ·cases hv
theorem nats_plain {v : Value} {n : Nat} (hv : nats v = some n) : plain v = true := by unfold nats at hv; split at hv <;> first | rfl | cases hv
theorem amakeSlice_rn {t : TypeId} {l c l' c' v : Value} {h1 : Heap} (hv : amakeSlice T t l c h = some (v, h1)) (hn : HN e h H) (hl : RN e l l') (hc : RN e c c') :
    ∃ v' H1, amakeSlice T t l' c' H = some (v', H1) ∧ Mk1 e h H v h1 v' H1 := by
 unfold amakeSlice at hv
 split at hv
 ·rename_i el l0 c0 hs hl0 hc0
  have e1 := hl.plain_eq (nats_plain hl0)
  have e2 := hc.plain_eq (nats_plain hc0)
  subst e1 e2
  unfold amakeSlice
  simp only [hs, hl0, hc0]
  split at hv
  ·rename_i by_ s z hb hsz hz
   try simp only [hb, hsz, hz]
   cases hcc : (l0.ble c0 && (by_ * c0).ble 140737488355328 && c0.ble 4611686018427387904 && closed z)
   ·rw [hcc] at hv; cases hv
   rw [hcc] at hv
   cases hv
   simp only [Bool.and_eq_true] at hcc
   exact ⟨_, _, rfl, hn.mk_sl (o := ⟨zerosOf z.cells.toList c0, el, false⟩) (O := ⟨zerosOf z.cells.toList c0, el, false⟩) rfl rfl (zeros_rns (closed_rns hcc.2) c0) _ _⟩
  ·cases hv
 ·cases hv
theorem asrc_rn {size n : Nat} {x x' : Value} {new : List Value} (hv : asrc size x h = some (n, new)) (hn : HN e h H) (hx : RN e x x') : ∃ new', asrc size x' H = some (n, new') ∧ RNs e new new' := by
 cases hx with
 | same hp =>
  have : asrc size x H = some (n, new) ∧ new.all plain = true := by
   unfold asrc at hv ⊢
   split at hv
   ·rename_i n0 c0
    cases hb : n0.beq 0
    ·rw [hb] at hv; cases hv
    ·rw [hb] at hv; cases hv; exact ⟨rfl, rfl⟩
   ·simp [plain] at hp
   ·rename_i s
    cases hb : size.beq 1
    ·rw [hb] at hv; cases hv
    ·rw [hb] at hv; cases hv; refine ⟨rfl, ?_⟩
     rw [List.all_eq_true]
     intro y hy
     obtain ⟨_, _, rfl⟩ := List.mem_map.1 hy
     rfl
   ·cases hv
  exact ⟨new, this.1, RNs.of_plain this.2⟩
 | slice hm =>
  rename_i b off c n0 cap
  simp only [asrc] at hv ⊢
  split at hv
  ·rename_i o ho
   obtain ⟨cs, g1, g2⟩ := hn.blk _ _ _ ho hm
   try simp only [g1]
   have hv2 := (g2.drop off).take (n0 * size)
   rw [← hv2.1]
   cases hlen : ((o.cells.drop off).take (n0 * size)).length.beq (n0 * size)
   ·rw [hlen] at hv; cases hv
   rw [hlen] at hv
   cases hv
   exact ⟨_, rfl, hv2⟩
  ·cases hv
 | nils hm hc =>
  simp only [asrc] at hv ⊢
  split at hv
  ·simp only [Nat.zero_mul, List.take_zero, List.length_nil, Nat.beq_refl, cond_true] at hv
   cases hv
   exact ⟨[], rfl, RNs.nil⟩
  ·cases hv
 | _ => simp [asrc] at hv
theorem asrc_live {size n : Nat} {b off n' c : Nat} {new : List Value} (hv : asrc size (.slice (some ⟨b, off, none⟩) n' c) h = some (n, new)) : (h.get b).isSome := by
 simp only [asrc] at hv
 split at hv
 ·rename_i o ho; rw [ho]; rfl
 ·cases hv
theorem aappend_rn {st xt : TypeId} {s x s' x' v : Value} {h1 : Heap} (hv : aappend T st xt s x h = some (v, h1)) (hn : HN e h H) (hs : RN e s s') (hx : RN e x x') :
    ∃ v' H1, aappend T st xt s' x' H = some (v', H1) ∧ Mk1 e h H v h1 v' H1 := by
 unfold aappend at hv
 split at hv
 ·rename_i el xd base len cap hst hxt
  cases hint : isIntD xd
  ·rw [hint] at hv
   simp only [cond_false] at hv
   split at hv
   ·rename_i s0 by_ z hsz hb hz
    split at hv
    ·rename_i n new hsrc
     obtain ⟨new', k1, k2⟩ := asrc_rn hsrc hn hx
     split at hv
     ·-- nil
      cases hc : (len.beq 0 && cap.beq 0)
      ·rw [hc] at hv; cases hv
      rw [hc] at hv
      simp only [cond_true] at hv
      have e1 := hs.plain_eq rfl
      subst e1
      unfold aappend
      simp only [hst, hxt, hint, cond_false, hsz, hb, hz, k1, hc, cond_true]
      cases hn0 : n.beq 0
      ·rw [hn0] at hv
       simp only [cond_false] at hv ⊢
       cases hbb : (n * (by_ + 1)).ble 140737488355328
       ·rw [hbb] at hv; cases hv
       rw [hbb] at hv
       cases hv
       exact ⟨_, _, rfl, hn.mk_sl (o := ⟨new, el, false⟩) (O := ⟨new', el, false⟩) rfl rfl k2 _ _⟩
      ·rw [hn0] at hv
       cases hv
       exact ⟨_, _, rfl, e, hn, Ex.refl _ _ _, .same rfl⟩
     ·rename_i b off
      cases hbl : (blockOf x == some b)
      ·rw [hbl] at hv
       simp only [cond_false] at hv
       split at hv
       ·rename_i o ho
        cases hs with
        | same hp => simp [plain] at hp
        | slice hm =>
         rename_i c
         obtain ⟨cs, g1, g2⟩ := hn.blk _ _ _ ho hm
         have hbl' : (blockOf x' == some c) = false := by
          rw [beq_eq_false_iff_ne]
          intro q
          cases hx with
          | same hp => cases x <;> first | (simp [blockOf] at q; done) | (rename_i a _ _; cases a <;> first | (simp [blockOf] at q; done) | simp [plain] at hp)
          | slice hm2 =>
           simp [blockOf] at q hbl
           subst q
           exact hbl (hn.inj _ _ _ hm2 hm (asrc_live hsrc) (by rw [ho]; rfl))
          | _ => simp [blockOf] at q
         unfold aappend
         simp only [hst, hxt, hint, cond_false, hsz, hb, hz, k1, hbl', g1]
         cases hro : o.ro
         ·rw [hro] at hv
          simp only [cond_false] at hv ⊢
          cases hun : unk.ble cap
          ·rw [hun] at hv
           simp only [cond_false] at hv ⊢
           cases hz0 : (len.beq 0 && cap.beq 0 && n.beq 0)
           ·rw [hz0] at hv
            simp only [cond_false] at hv ⊢
            cases hfit : (len + n).ble cap
            ·rw [hfit] at hv
             simp only [cond_false] at hv ⊢
             cases hn0 : n.beq 0
             ·rw [hn0] at hv
              simp only [cond_false] at hv ⊢
              rw [← g2.1]
              cases hcc : ((off + len * (s0 + 1)).ble o.cells.length && ((len + n) * (by_ + 1)).ble 140737488355328)
              ·rw [hcc] at hv; cases hv
              rw [hcc] at hv
              cases hv
              exact ⟨_, _, rfl, hn.mk_sl (o := ⟨(o.cells.drop off).take (len * (s0 + 1)) ++ new, el, false⟩) (O := ⟨(cs.drop off).take (len * (s0 + 1)) ++ new', el, false⟩) rfl rfl (((g2.drop off).take _).append k2) _ _⟩
             ·rw [hn0] at hv; cases hv
            ·rw [hfit] at hv
             simp only [cond_true] at hv ⊢
             split at hv
             ·rename_i h2 hp
              cases hv
              obtain ⟨H2, q1, q2, q3⟩ := aput_rn hp hn hm k2
              simp only [q1]
              exact ⟨_, _, rfl, e, q2, q3, .slice hm⟩
             ·cases hv
           ·rw [hz0] at hv
            simp only [cond_true] at hv ⊢
            rw [← g2.1]
            cases he0 : (o.elem.beq el && off.ble o.cells.length)
            ·rw [he0] at hv; cases hv
            rw [he0] at hv
            cases hv
            exact ⟨_, _, rfl, e, hn, Ex.refl _ _ _, .slice hm⟩
          ·rw [hun] at hv
           simp only [cond_true] at hv ⊢
           cases hel : (o.elem.beq el)
           ·rw [hel] at hv; cases hv
           rw [hel] at hv
           simp only [cond_true] at hv ⊢
           cases hn0 : n.beq 0
           ·rw [hn0] at hv
            simp only [cond_false] at hv ⊢
            rw [← g2.1]
            cases hcc : ((off + len * (s0 + 1)).ble o.cells.length && new.all one && ((len + n) * (by_ + 1)).ble 140737488355328)
            ·rw [hcc] at hv; cases hv
            rw [hcc] at hv
            cases hv
            simp only [Bool.and_eq_true] at hcc
            rw [k2.all_one hcc.1.2, hcc.1.1, hcc.2]
            simp only [Bool.and_self, cond_true]
            obtain ⟨q1, q2⟩ := hn.kill ho hm
            obtain ⟨e1, q3, q4, q5⟩ := q1.mk_sl (o := ⟨(o.cells.drop off).take (len * (s0 + 1)) ++ new, el, false⟩) (O := ⟨(cs.drop off).take (len * (s0 + 1)) ++ new', el, false⟩) rfl rfl (((g2.drop off).take (len * (s0 + 1))).append k2) (len + n) (unk + (s0 + 1))
            exact ⟨_, _, rfl, e1, q3, q2.trans hn q4, q5⟩
           ·rw [hn0] at hv
            cases hv
            exact ⟨_, _, rfl, e, hn, Ex.refl _ _ _, .slice hm⟩
         ·rw [hro] at hv; cases hv
        | nils hm hcap =>
         have hun : unk.ble cap = true := (fun h => Nat.ble_eq_true_of_le h) hcap
         have hcl := hn.gh _ _ ho hm
         cases hro : o.ro
         ·rw [hro] at hv
          simp only [cond_false, hun, cond_true] at hv
          cases hel : (o.elem.beq el)
          ·rw [hel] at hv; cases hv
          rw [hel] at hv
          simp only [cond_true] at hv
          unfold aappend
          simp only [hst, hxt, hint, cond_false, hsz, hb, hz, k1, Nat.beq_refl, Bool.and_self, cond_true]
          cases hn0 : n.beq 0
          ·rw [hn0] at hv
           simp only [cond_false] at hv ⊢
           cases hcc : ((off + 0 * (s0 + 1)).ble o.cells.length && new.all one && ((0 + n) * (by_ + 1)).ble 140737488355328)
           ·rw [hcc] at hv; cases hv
           rw [hcc] at hv
           cases hv
           simp only [Bool.and_eq_true, Nat.zero_add] at hcc
           rw [hcc.2]
           simp only [cond_true, Nat.zero_add, Nat.zero_mul, List.take_zero, List.nil_append]
           obtain ⟨q1, q2⟩ := hn.kill0 b
           obtain ⟨e1, q3, q4, q5⟩ := q1.mk_sl (o := ⟨new, el, false⟩) (O := ⟨new', el, false⟩) rfl rfl k2 n (unk + (s0 + 1))
           exact ⟨_, _, rfl, e1, q3, q2.trans hn q4, q5⟩
          ·rw [hn0] at hv
           cases hv
           exact ⟨_, _, rfl, e, hn, Ex.refl _ _ _, .nils hm hcap⟩
         ·rw [hro] at hv; cases hv
       ·cases hv
      ·rw [hbl] at hv; cases hv
     ·cases hv
    ·cases hv
   ·cases hv
  ·rw [hint] at hv; cases hv
 ·cases hv
theorem atrim_rn {k n : Nat} {x x' y : Value} (hv : atrim k x = some (n, y)) (hx : RN e x x') : ∃ y', atrim k x' = some (n, y') ∧ RN e y y' := by
 cases hx with
 | same hp =>
  refine ⟨y, hv, .same ?_⟩
  unfold atrim at hv
  split at hv
  ·rename_i a n0 c; cases hv; cases a <;> first | rfl | simp [plain] at hp
  ·cases hv; rfl
  ·cases hv
 | slice hm => simp only [atrim] at hv ⊢; cases hv; exact ⟨_, rfl, .slice hm⟩
 | nils hm hc =>
  simp only [atrim] at hv ⊢
  cases hv
  refine ⟨_, rfl, ?_⟩
  rw [show Nat.min 0 k = 0 from Nat.zero_min k]
  exact .nils hm hc
 | _ => simp [atrim] at hv
theorem acopy_rn {dt : TypeId} {d x d' x' v : Value} {h1 : Heap} (hv : acopy T dt d x h = some (v, h1)) (hn : HN e h H) (hd : RN e d d') (hx : RN e x x') :
    ∃ H1, acopy T dt d' x' H = some (v, H1) ∧ HN e h1 H1 ∧ Ex e e h H h1 H1 ∧ plain v = true := by
 unfold acopy at hv
 split at hv
 ·rename_i el base dlen cap hs
  split at hv
  ·rename_i s0 n y hsz ht
   obtain ⟨y', t1, t2⟩ := atrim_rn ht hx
   split at hv
   ·rename_i n2 hsrc
    cases hv
    obtain ⟨l', k1, k2⟩ := asrc_rn hsrc hn t2
    have : l' = [] := List.eq_nil_of_length_eq_zero (by have := k2.1; simp at this; exact this.symm)
    subst this
    refine ⟨H, ?_, hn, Ex.refl _ _ _, rfl⟩
    cases hd with
    | same hp => unfold acopy; simp only [hs, hsz, t1, k1]
    | slice hm => unfold acopy; simp only [hs, hsz, t1, k1]
    | nils hm hc => unfold acopy; simp only [hs, hsz, t1, k1]
   ·rename_i n2 l hne hsrc
    obtain ⟨l', k1, k2⟩ := asrc_rn hsrc hn t2
    have hl : l ≠ [] := fun q => hne q
    have hne' : l' ≠ [] := fun q => by
     subst q
     have := k2.1
     simp at this
     exact hl this
    split at hv
    ·rename_i b off
     split at hv
     ·rename_i h2 hp
      cases hv
      cases hd with
      | same hp => simp [plain] at hp
      | slice hm =>
       obtain ⟨H2, q1, q2, q3⟩ := aput_rn hp hn hm k2
       refine ⟨H2, ?_, q2, q3, rfl⟩
       unfold acopy
       simp only [hs, hsz, t1, k1]
       cases l' with
       | nil => exact absurd rfl hne'
       | cons p r => simp only [q1]
      | nils hm hc =>
       exfalso
       unfold atrim at ht
       have : n = 0 := by
        split at ht
        ·cases ht; exact Nat.min_zero _
        ·cases ht; exact Nat.min_zero _
        ·cases ht
       subst this
       have hz : l = [] := by
        split at ht
        ·rename_i a n0 c
         have e1 : y = .slice a (Nat.min n0 0) c := by injection ht with ht; injection ht with _ ht; exact ht.symm
         subst e1
         rw [show Nat.min n0 0 = 0 from Nat.min_zero _] at hsrc
         cases a with
         | none => simp [asrc] at hsrc; exact hsrc.2
         | some a =>
          obtain ⟨b2, o2, p2⟩ := a
          cases p2 with
          | some _ => simp [asrc] at hsrc
          | none =>
           simp only [asrc] at hsrc
           split at hsrc
           ·simp at hsrc; exact hsrc.2
           ·cases hsrc
        ·rename_i st
         have e1 : y = .string (st.extract 0 (Nat.min st.size 0)) := by injection ht with ht; injection ht with _ ht; exact ht.symm
         subst e1
         unfold asrc at hsrc
         simp only at hsrc
         cases hb : (s0 + 1).beq 1
         ·rw [hb] at hsrc; cases hsrc
         ·rw [hb] at hsrc
          cases hsrc
          rw [show Nat.min st.size 0 = 0 from Nat.min_zero _]
          simp
        ·cases ht
       exact hl hz
     ·cases hv
    ·cases hv
   ·cases hv
  ·cases hv
 ·cases hv
theorem bytesOf_rn {l l' : List Value} (hr : RNs e l l') {s0 s : ByteArray} (hv : bytesOf.go l s0 = some s) : l' = l := by
 obtain ⟨ns, rfl, _⟩ := bytesOf_spec _ _ _ hv
 exact (hr.inj (RNs.of_plain (by rw [List.all_eq_true]; intro x hx; obtain ⟨_, _, rfl⟩ := List.mem_map.1 hx; rfl)))
theorem aconvert_rn {src dst : TypeId} {x x' v : Value} (hv : aconvert T src dst x h = some v) (hn : HN e h H) (hx : RN e x x') : aconvert T src dst x' H = some v ∧ plain v = true := by
 unfold aconvert at hv
 split at hv
 ·rename_i d k k0 n h1 h2
  cases hv
  have := hx.plain_eq rfl
  subst this
  unfold aconvert
  simp only [h1, h2]
  exact ⟨trivial, rfl⟩
 ·rename_i el n c h1 h2
  have := hx.plain_eq rfl
  subst this
  cases hu : isU8 (T.under el)
  ·rw [hu] at hv; cases hv
  rw [hu] at hv
  cases hv
  unfold aconvert
  simp only [h1, h2, hu, cond_true]
  exact ⟨trivial, rfl⟩
 ·rename_i el b off n c h1 h2
  cases hu : isU8 (T.under el)
  ·rw [hu] at hv; cases hv
  rw [hu] at hv
  simp only [cond_true] at hv
  split at hv
  ·rename_i o ho
   cases hlen : ((o.cells.drop off).take n).length.beq n
   ·simp only [hlen] at hv; cases hv
   simp only [hlen, cond_true] at hv
   split at hv
   ·rename_i s hb
    cases hv
    refine ⟨?_, rfl⟩
    cases hx with
    | same hp => simp [plain] at hp
    | slice hm =>
     obtain ⟨cs, g1, g2⟩ := hn.blk _ _ _ ho hm
     have := bytesOf_rn ((g2.drop off).take n) (show bytesOf.go _ _ = some s from hb)
     unfold aconvert
     simp only [h1, h2, hu, cond_true, g1, this, hlen, hb]
    | nils hm hc =>
     unfold aconvert
     simp only [h1, h2, hu, cond_true]
     simp only [List.take_zero] at hb
     have : bytesOf [] = some ByteArray.empty := rfl
     rw [this] at hb
     cases hb
     rfl
   ·cases hv
  ·cases hv
 ·cases hv
end
end Go.Ev
end
section
namespace Go.Ev
open Go
set_option linter.unusedVariables false
set_option linter.unusedSimpArgs false
def TE (e : Em) (tm tm' : Tr Value) : Prop := ∀ t v, tm.get t = some v → ∃ v', tm'.get t = some v' ∧ RN e v v'
theorem TE.mono {e e1 : Em} (he : e.le e1) {tm tm' : Tr Value} (h : TE e tm tm') : TE e1 tm tm' := fun t v k => by
 obtain ⟨v', h1, h2⟩ := h t v k
 exact ⟨v', h1, h2.mono he⟩
theorem TE.put {e : Em} {tm tm' : Tr Value} (h : TE e tm tm') (d : Nat) {v v' : Value} (hv : RN e v v') : TE e (tm.put d (some v)) (tm'.put d (some v')) := fun t u k => by
 rw [Tr.get_put] at k ⊢
 split at k
 ·rename_i q; cases k; rw [if_pos q]; exact ⟨v', rfl, hv⟩
 ·rename_i q; rw [if_neg q]; exact h t u k
def pres (tm : Tr Value) : Operand → Bool
 | .tmp t => (tm.get t).isSome
 | _ => true
def OpN (e : Em) (tm tm' : Tr Value) (xs : List Operand) : Prop := ∀ x ∈ xs, ∀ v, aeval tm x = some v → ∃ v', aeval tm' x = some v' ∧ RN e v v'
section
variable {P : Program} {T : Tab} {e : Em} {h H h1 : Heap} {tm tm' : Tr Value} {o : Oper} {r : Res}
theorem TE.op (ht : TE e tm tm') {xs : List Operand} (hp : xs.all (pres tm) = true) : OpN e tm tm' xs := by
 intro x hx v hv
 cases x with
 | tmp t =>
  have := List.all_eq_true.1 hp _ hx
  unfold pres at this
  obtain ⟨u, hu⟩ := Option.isSome_iff_exists.1 this
  simp only [aeval, hu, Option.getD_some] at hv
  cases hv
  obtain ⟨v', h1, h2⟩ := ht t _ hu
  exact ⟨v', by simp only [aeval, h1, Option.getD_some], h2⟩
 | const c =>
  simp only [aeval] at hv ⊢
  cases hc : closed c
  ·rw [hc] at hv; cases hv
  ·rw [hc] at hv; cases hv; exact ⟨_, rfl, RN.of_closed hc⟩
 | func f => simp only [aeval] at hv ⊢; cases hv; exact ⟨_, rfl, RN.of_closed rfl⟩
 | global g => simp [aeval] at hv
theorem aevals_rn : ∀ {xs : List Operand} {l : List Value}, OpN e tm tm' xs → aevals tm xs = some l → ∃ l', aevals tm' xs = some l' ∧ RNs e l l' := by
 intro xs
 induction xs with
 | nil => intro l ht h; simp only [aevals] at h ⊢; cases h; exact ⟨_, rfl, RNs.nil⟩
 | cons x xs ih =>
  intro l ht h
  simp only [aevals] at h
  split at h
  ·rename_i v l' h1 h2
   cases h
   obtain ⟨v', k1, k2⟩ := ht x (by simp) _ h1
   obtain ⟨l2, k3, k4⟩ := ih (fun y hy => ht y (by simp [hy])) h2
   exact ⟨_, by simp only [aevals, k1, k3], RNs.cons k2 k4⟩
  ·cases h
theorem aevalp_rn : ∀ {xs : List (Nat × Operand)} {l : List (Nat × Value)}, OpN e tm tm' (xs.map (·.2)) → aevalp tm xs = some l → ∃ l', aevalp tm' xs = some l' ∧ RNp e l l' := by
 intro xs
 induction xs with
 | nil => intro l ht h; simp only [aevalp] at h ⊢; cases h; exact ⟨_, rfl, .nil⟩
 | cons x xs ih =>
  intro l ht h
  obtain ⟨i, x⟩ := x
  simp only [aevalp] at h
  split at h
  ·rename_i v l' h1 h2
   cases h
   obtain ⟨v', k1, k2⟩ := ht x (by simp) _ h1
   obtain ⟨l2, k3, k4⟩ := ih (fun y hy => ht y (by simp at hy ⊢; exact .inr hy)) h2
   exact ⟨_, by simp only [aevalp, k1, k3], .cons k2 k4⟩
  ·cases h
theorem aevalo_rn {x : Option Operand} {q : Option Value} (ht : OpN e tm tm' x.toList) (h : aevalo tm x = some q) : ∃ q', aevalo tm' x = some q' ∧ RNo e q q' := by
 cases x with
 | none => simp only [aevalo] at h ⊢; cases h; exact ⟨_, rfl, True.intro⟩
 | some x =>
  simp only [aevalo] at h
  split at h
  ·rename_i v hv
   cases h
   obtain ⟨v', k1, k2⟩ := ht x (by simp) _ hv
   exact ⟨some v', by simp only [aevalo, k1], k2⟩
  ·cases h
theorem aeval_same {xs : List Operand} (ht : OpN e tm tm' xs) (hd : xs.all (dataAt tm) = true) : ∀ x ∈ xs, aeval tm' x = aeval tm x := by
 intro x hx
 have h1 := List.all_eq_true.1 hd x hx
 unfold dataAt at h1
 split at h1
 ·rename_i v hv
  obtain ⟨v', k1, k2⟩ := ht x hx v hv
  rw [k1, k2.closed_eq h1, hv]
 ·cases h1
theorem fallback_data {v : Value} (h : fallback P tm o = some v) : o.op.operands.toList.all (dataAt tm) = true := by
 unfold fallback at h
 split at h
 ·cases hb : o.op.operands.toList.all (dataAt tm)
  ·rw [hb] at h; cases h
  ·rfl
 ·unfold fallback0 at h
  cases hb : o.op.operands.toList.all (dataAt tm)
  ·rw [hb] at h; cases h
  ·rfl
theorem aggEq_same (hq : ∀ x ∈ o.op.operands.toList, aeval tm' x = aeval tm x) : aggEq P tm' o = aggEq P tm o := by
 unfold aggEq
 cases hop : o.op with
 | binOp op t a b p =>
  rw [hop] at hq
  simp only
  rw [hq a (by simp [Op.operands]), hq b (by simp [Op.operands])]
 | _ => rfl
theorem all_same {xs : List Operand} (hq : ∀ x ∈ xs, aeval tm' x = aeval tm x) : xs.all (dataAt tm') = xs.all (dataAt tm) := by
 induction xs with
 | nil => rfl
 | cons x xs ih =>
  simp only [List.all_cons]
  rw [ih (fun y hy => hq y (by simp [hy]))]
  unfold dataAt
  rw [hq x (by simp)]
theorem fallback_rn {v : Value} (ht : OpN e tm tm' o.op.operands.toList) (hs : ∀ cs b, o.op ≠ .select cs b) (hv : fallback P tm o = some v) : fallback P tm' o = some v ∧ closed v = true := by
 have hd := fallback_data hv
 have hq := aeval_same ht hd
 have e1 : fallback P tm' o = fallback P tm o := by
  unfold fallback
  rw [aggEq_same hq]
  have e0 : fallback0 P tm' o = fallback0 P tm o := by
   unfold fallback0
   rw [all_same hq]
   have : execOp (ρ tm') o = execOp (ρ tm) o := execOp_congr o hs fun x hx => by
    unfold ρ
    rw [hq x (by simpa using hx)]
   rw [this]
  rw [e0, all_same hq]
 refine ⟨e1.trans hv, ?_⟩
 unfold fallback at hv
 split at hv
 ·rename_i u hu
  cases hb : o.op.operands.toList.all (dataAt tm)
  ·rw [hb] at hv; cases hv
  ·rw [hb] at hv
   cases hv
   unfold aggEq at hu
   split at hu
   ·split at hu
    ·rename_i x y _ _
     revert hu
     generalize (isStr _ && !P.stoodInHeld _ && !P.eqGuardType P.depth _) = bb
     intro hu
     cases bb
     ·cases hu
     ·simp only [cond_true] at hu; split at hu
      ·cases hu; rfl
      ·cases hu
    ·rename_i x y _ _
     revert hu
     generalize (isStr _ && !P.stoodInHeld _ && !P.eqGuardType P.depth _) = bb
     intro hu
     cases bb
     ·cases hu
     ·simp only [cond_true] at hu; split at hu
      ·cases hu; rfl
      ·cases hu
    ·cases hu
   ·cases hu
 ·unfold fallback0 at hv
  cases hb : o.op.operands.toList.all (dataAt tm)
  ·rw [hb] at hv; cases hv
  ·rw [hb] at hv
   simp only [cond_true] at hv
   split at hv
   ·rename_i u hu
    cases hc : closed u
    ·rw [hc] at hv; cases hv
    ·rw [hc] at hv; cases hv; exact hc
   ·cases hv
inductive ResN (e : Em) : Res → Res → Prop where
 | val {v v' : Value} (h : RN e v v') : ResN e (.val v) (.val v')
 | skip : ResN e .skip .skip
 | enter {f : FuncId} {as bs : Array Value} (h : RNs e as.toList bs.toList) : ResN e (.enter f as) (.enter f bs)
def GoodN (e : Em) (h H : Heap) (q : Option (Res × Heap)) (r : Res) (h1 : Heap) : Prop :=
 ∃ r' H1 e1, q = some (r', H1) ∧ HN e1 h1 H1 ∧ Ex e e1 h H h1 H1 ∧ ResN e1 r r'
theorem goodn_val {u u' : Option Value} (hv : val u h = some (r, h1)) (hn : HN e h H) (hrun : ∀ v, u = some v → ∃ v', u' = some v' ∧ RN e v v') : GoodN e h H (val u' H) r h1 := by
 unfold val at hv
 split at hv
 ·cases hv
  obtain ⟨v', k1, k2⟩ := hrun _ rfl
  rw [k1]
  exact ⟨_, H, e, rfl, hn, Ex.refl _ _ _, .val k2⟩
 ·cases hv
theorem goodn_val2 {u u' : Option (Value × Heap)} (hv : val2 u = some (r, h1)) (hrun : ∀ v, u = some (v, h1) → ∃ v' H1, u' = some (v', H1) ∧ Mk1 e h H v h1 v' H1) : GoodN e h H (val2 u') r h1 := by
 unfold val2 at hv
 split at hv
 ·cases hv
  obtain ⟨v', H1, k1, e1, k2, k3, k4⟩ := hrun _ rfl
  rw [k1]
  exact ⟨_, H1, e1, rfl, k2, k3, .val k4⟩
 ·cases hv
theorem goodn_or {u u' w w' : Option Value} (hv : val (orVal u w) h = some (r, h1)) (hn : HN e h H) (hu : ∀ v, u = some v → ∃ v', u' = some v' ∧ RN e v v') (hw : ∀ v, u = none → w = some v → u' = none ∧ ∃ v', w' = some v' ∧ RN e v v') :
    GoodN e h H (val (orVal u' w') H) r h1 := by
 refine goodn_val hv hn fun v hq => ?_
 cases hu0 : u with
 | some x =>
  rw [hu0] at hq
  obtain ⟨v', k1, k2⟩ := hu x hu0
  rw [k1]
  simp only [orVal] at hq ⊢
  cases hq
  exact ⟨_, rfl, k2⟩
 | none =>
  rw [hu0] at hq
  simp only [orVal] at hq
  obtain ⟨k0, v', k1, k2⟩ := hw v hu0 hq
  rw [k0]
  simp only [orVal]
  exact ⟨v', k1, k2⟩
theorem acall_rn {c : Call} (hop : o.op = .call c) (hv : acall P T tm o c h = some (r, h1)) (hn : HN e h H) (ht : OpN e tm tm' o.op.operands.toList) : GoodN e h H (acall P T tm' o c H) r h1 := by
 have hfb : ∀ v, fallback P tm o = some v → fallback P tm' o = some v ∧ closed v = true := fun v hv => fallback_rn ht (by rw [hop]; simp) hv
 unfold acall at hv
 split at hv
 ·rename_i f hc
  split at hv
  ·rename_i g first cap l hf hl
   split at hv
   ·rename_i fn hfn
    cases hv
    obtain ⟨fv, k1, k2⟩ := ht f (by simp [hop, Op.operands, Call.operands, hc]) _ hf
    obtain ⟨l', k3, k4⟩ := aevals_rn (fun x hx => ht x (by simp [hop, Op.operands, Call.operands, hc] at hx ⊢; exact .inr hx)) hl
    cases k2 with
    | same hp => simp [plain] at hp
    | func hs hx hs2 hx2 =>
     rename_i gs ds
     refine ⟨.enter g (gs ++ l'.toArray ++ ds), H, e, ?_, hn, Ex.refl _ _ _, .enter ?_⟩
     ·unfold acall
      simp only [hc, k1, k3, hfn]
     ·simp only [Array.toList_append]
      exact ((RNs.of_arr hs hx).append (by simpa using k4)).append (RNs.of_arr hs2 hx2)
   ·cases hv
  ·cases hv
 ·cases hv
 ·rename_i b hc
  have hargs : OpN e tm tm' c.args.toList := fun x hx => ht x (by simp [hop, Op.operands, Call.operands, hc] at hx ⊢; exact hx)
  unfold acall
  rw [hc]
  simp only
  split at hv
  ·rename_i st xt s x hat hl
   obtain ⟨l', k3, k4⟩ := aevals_rn hargs hl
   obtain ⟨s', hs, hs2⟩ := k4.2 0 s rfl
   obtain ⟨x', hx, hx2⟩ := k4.2 1 x rfl
   have hl2 : l' = [s', x'] := by
    match l', k4.1, hs, hx with
    | [p, q], _, hs, hx => simp at hs hx; subst hs hx; rfl
   subst hl2
   simp only [hat, k3]
   exact goodn_val2 hv fun v hq => aappend_rn hq hn hs2 hx2
  ·rename_i dt xt d x hat hl
   obtain ⟨l', k3, k4⟩ := aevals_rn hargs hl
   obtain ⟨s', hs, hs2⟩ := k4.2 0 d rfl
   obtain ⟨x', hx, hx2⟩ := k4.2 1 x rfl
   have hl2 : l' = [s', x'] := by
    match l', k4.1, hs, hx with
    | [p, q], _, hs, hx => simp at hs hx; subst hs hx; rfl
   subst hl2
   simp only [hat, k3]
   refine goodn_val2 hv fun v hq => ?_
   obtain ⟨H1, q1, q2, q3, q4⟩ := acopy_rn hq hn hs2 hx2
   exact ⟨v, H1, q1, e, q2, q3, .same q4⟩
  ·rename_i t s n c' hat hl
   obtain ⟨l', k3, k4⟩ := aevals_rn hargs hl
   obtain ⟨s', hs, hs2⟩ := k4.2 0 _ rfl
   have hl2 : l' = [s'] := by
    match l', k4.1, hs with
    | [p], _, hs => simp at hs; subst hs; rfl
   subst hl2
   split at hv
   ·rename_i el hu
    cases hv
    simp only [hat, k3]
    have : ∃ s2 c2, s' = .slice s2 n c2 := by
     cases hs2 with
     | same => exact ⟨_, _, rfl⟩
     | slice => exact ⟨_, _, rfl⟩
     | nils => exact ⟨_, _, rfl⟩
    obtain ⟨s2, c2, rfl⟩ := this
    simp only [hu]
    exact ⟨_, H, e, rfl, hn, Ex.refl _ _ _, .val (.same rfl)⟩
   ·cases hv
  ·rename_i k x k' y hl
   obtain ⟨l', k3, k4⟩ := aevals_rn hargs hl
   obtain ⟨s', hs, hs2⟩ := k4.2 0 _ rfl
   obtain ⟨x', hx, hx2⟩ := k4.2 1 _ rfl
   have hl2 : l' = [s', x'] := by
    match l', k4.1, hs, hx with
    | [p, q], _, hs, hx => simp at hs hx; subst hs hx; rfl
   subst hl2
   cases hs2.plain_eq rfl
   cases hx2.plain_eq rfl
   cases hv
   simp only [k3]
   exact ⟨_, H, e, rfl, hn, Ex.refl _ _ _, .val (.same rfl)⟩
  ·rename_i k x k' y hl
   obtain ⟨l', k3, k4⟩ := aevals_rn hargs hl
   obtain ⟨s', hs, hs2⟩ := k4.2 0 _ rfl
   obtain ⟨x', hx, hx2⟩ := k4.2 1 _ rfl
   have hl2 : l' = [s', x'] := by
    match l', k4.1, hs, hx with
    | [p, q], _, hs, hx => simp at hs hx; subst hs hx; rfl
   subst hl2
   cases hs2.plain_eq rfl
   cases hx2.plain_eq rfl
   cases hv
   simp only [k3]
   exact ⟨_, H, e, rfl, hn, Ex.refl _ _ _, .val (.same rfl)⟩
  ·cases hv
  ·cases hv
  ·rename_i n1 n2 n3 n4 n5 n6 n7
   have hd : ∃ v, fallback P tm o = some v := by
    unfold val at hv
    split at hv
    ·exact ⟨_, by assumption⟩
    ·cases hv
   obtain ⟨v, hd⟩ := hd
   have hq := aeval_same ht (fallback_data hd)
   have hae : aevals tm' c.args.toList = aevals tm c.args.toList := by
    have : ∀ x ∈ c.args.toList, aeval tm' x = aeval tm x := fun x hx => hq x (by simp [hop, Op.operands, Call.operands, hc] at hx ⊢; exact hx)
    clear hargs hv n1 n2 n3 n4 n5 n6 n7
    generalize c.args.toList = xs at this
    induction xs with
    | nil => rfl
    | cons x xs ih => simp only [aevals]; rw [this x (by simp), ih fun y hy => this y (by simp [hy])]
   rw [hae]
   have key : GoodN e h H (val (fallback P tm' o) H) r h1 := goodn_val hv hn fun v hv => by
    obtain ⟨k1, k2⟩ := hfb v hv
    exact ⟨v, k1, RN.of_closed k2⟩
   split
   all_goals first | exact key | (exfalso; first | exact n1 rfl | exact n2 rfl | exact n3 _ _ _ _ rfl ‹_› | exact n4 _ _ _ _ rfl ‹_› | exact n5 _ _ _ _ rfl ‹_› ‹_› | exact n6 _ _ _ _ rfl ‹_› ‹_› | exact n7 _ _ _ _ rfl ‹_› ‹_›)
def okB (tm : Tr Value) : Op → Bool
 | .binOp _ _ x y _ => (match aeval tm x with | some v => !mn v | none => true) && (match aeval tm y with | some v => !mn v | none => true)
 | _ => true
theorem aop_rn (hv : aop P T tm o h = some (r, h1)) (hn : HN e h H) (ht : OpN e tm tm' o.op.operands.toList) (hb : okB tm o.op = true) : GoodN e h H (aop P T tm' o H) r h1 := by
 have hmk : ∀ {v v' : Value} {h1 H1 : Heap}, Mk1 e h H v h1 v' H1 → GoodN e h H (some (.val v', H1)) (.val v) h1 := fun ⟨e1, k1, k2, k3⟩ => ⟨_, _, e1, rfl, k1, k2, .val k3⟩
 unfold aop at hv
 split at hv
 ·rename_i x hop
  unfold aop
  rw [hop]
  exact goodn_val hv hn fun v hq => ht _ (by simp [hop, Op.operands]) _ hq
 ·rename_i x hop
  unfold aop
  rw [hop]
  exact goodn_val hv hn fun v hq => ht _ (by simp [hop, Op.operands]) _ hq
 ·rename_i c x y hop
  unfold aop
  rw [hop]
  split at hv
  ·rename_i t u v q1 q2 q3
   obtain ⟨c', k1, k2⟩ := ht c (by simp [hop, Op.operands]) _ q1
   obtain ⟨u', k3, k4⟩ := ht x (by simp [hop, Op.operands]) _ q2
   obtain ⟨v', k5, k6⟩ := ht y (by simp [hop, Op.operands]) _ q3
   cases k2.plain_eq rfl
   simp only [k1, k3, k5]
   cases hv
   refine ⟨_, H, e, rfl, hn, Ex.refl _ _ _, .val ?_⟩
   cases t
   ·exact k6
   ·exact k4
  ·cases hv
 ·rename_i el hop
  unfold aop
  rw [hop]
  split at hv
  ·rename_i z hz
   simp only [hz]
   cases hc : closed z
   ·rw [hc] at hv; cases hv
   rw [hc] at hv
   cases hv
   exact hmk (hn.mk_ptr (o := ⟨z.cells.toList, el, false⟩) (O := ⟨z.cells.toList, el, false⟩) rfl rfl (closed_rns hc))
  ·cases hv
 ·rename_i el x hop
  unfold aop
  rw [hop]
  split at hv
  ·rename_i v q1
   obtain ⟨v', k1, k2⟩ := ht x (by simp [hop, Op.operands]) _ q1
   simp only [k1]
   cases hv
   exact hmk (hn.mk_ptr (o := ⟨v.cells.toList, el, false⟩) (O := ⟨v'.cells.toList, el, false⟩) rfl rfl (RNs.cells k2))
  ·cases hv
 ·rename_i t ps hop
  unfold aop
  rw [hop]
  split at hv
  ·rename_i l hl
   obtain ⟨l', k1, k2⟩ := aevalp_rn (fun x hx => ht x (by simpa [hop, Op.operands] using hx)) hl
   simp only [k1]
   exact goodn_val hv hn fun v hq => abuild_rn hq k2
  ·cases hv
 ·rename_i t n ps hop
  unfold aop
  rw [hop]
  split at hv
  ·rename_i l hl
   obtain ⟨l', k1, k2⟩ := aevalp_rn (fun x hx => ht x (by simpa [hop, Op.operands] using hx)) hl
   simp only [k1]
   exact goodn_val2 hv fun v hq => abuildSlice_rn hq hn k2
  ·cases hv
 ·rename_i t x hop
  unfold aop
  rw [hop]
  split at hv
  ·rename_i u hu
   obtain ⟨u', k1, k2⟩ := ht x (by simp [hop, Op.operands]) _ hu
   simp only [k1]
   exact goodn_val hv hn fun v hq => aload_rn hq hn k2
  ·cases hv
 ·rename_i t x y hop
  unfold aop
  rw [hop]
  split at hv
  ·rename_i v u q1 q2
   obtain ⟨v', k1, k2⟩ := ht x (by simp [hop, Op.operands]) _ q1
   obtain ⟨u', k3, k4⟩ := ht y (by simp [hop, Op.operands]) _ q2
   simp only [k1, k3]
   unfold skp at hv
   split at hv
   ·rename_i h2 hst
    cases hv
    obtain ⟨H1, g1, g2, g3⟩ := astore_rn hst hn k2 k4
    rw [g1]
    exact ⟨_, H1, e, rfl, g2, g3, .skip⟩
   ·cases hv
  ·cases hv
 ·rename_i x hop
  unfold aop
  rw [hop]
  split at hv
  ·rename_i p hp
   obtain ⟨v', k1, k2⟩ := ht x (by simp [hop, Op.operands]) _ hp
   cases hv
   cases k2 with
   | same hpp => simp [plain] at hpp
   | ptr hb =>
    simp only [k1]
    exact ⟨_, H, e, rfl, hn, Ex.refl _ _ _, .val (.ptr hb)⟩
  ·rename_i f g c hp
   obtain ⟨v', k1, k2⟩ := ht x (by simp [hop, Op.operands]) _ hp
   cases hv
   cases k2 with
   | same hpp => simp [plain] at hpp
   | func g1 g2 g3 g4 =>
    simp only [k1]
    exact ⟨_, H, e, rfl, hn, Ex.refl _ _ _, .val (.func g1 g2 g3 g4)⟩
  ·cases hv
 ·rename_i op t x y yt hop
  unfold aop
  rw [hop]
  split at hv
  ·rename_i u v hu hw
   obtain ⟨u', k1, k2⟩ := ht x (by simp [hop, Op.operands]) _ hu
   obtain ⟨v', k3, k4⟩ := ht y (by simp [hop, Op.operands]) _ hw
   rw [hop] at hb
   simp only [okB, hu, hw, Bool.and_eq_true, Bool.not_eq_true'] at hb
   simp only [k1, k3]
   refine goodn_or hv hn (fun z hz => ?_) fun z h0 hz => ?_
   ·obtain ⟨g1, g2⟩ := abin_rn hz k2 k4 hb.1 hb.2
    exact ⟨z, g1, .same g2⟩
   ·obtain ⟨g1, g2⟩ := fallback_rn ht (by rw [hop]; simp) hz
    have hq := aeval_same ht (fallback_data hz)
    have e1 : u' = u := by have := hq x (by simp [hop, Op.operands]); rw [k1, hu] at this; exact Option.some.inj this
    have e2 : v' = v := by have := hq y (by simp [hop, Op.operands]); rw [k3, hw] at this; exact Option.some.inj this
    exact ⟨by rw [e1, e2]; exact h0, z, g1, RN.of_closed g2⟩
  ·cases hv
 ·rename_i t x hop
  unfold aop
  rw [hop]
  split at hv
  ·rename_i b q1
   obtain ⟨v', k1, k2⟩ := ht x (by simp [hop, Op.operands]) _ q1
   cases k2.plain_eq rfl
   simp only [k1]
   cases hv
   exact ⟨_, H, e, rfl, hn, Ex.refl _ _ _, .val (.same rfl)⟩
  ·cases hv
 ·rename_i sr ds x hop
  unfold aop
  rw [hop]
  split at hv
  ·rename_i v q1
   obtain ⟨v', k1, k2⟩ := ht x (by simp [hop, Op.operands]) _ q1
   simp only [k1]
   refine goodn_or hv hn (fun z hz => ?_) fun z h0 hz => ?_
   ·obtain ⟨g1, g2⟩ := aconvert_rn hz hn k2
    exact ⟨z, g1, .same g2⟩
   ·obtain ⟨g1, g2⟩ := fallback_rn ht (by rw [hop]; simp) hz
    have hd := fallback_data hz
    have hq := aeval_same ht hd
    have e1 : v' = v := by have := hq x (by simp [hop, Op.operands]); rw [k1, q1] at this; exact Option.some.inj this
    have hcl : closed v = true := by
     have := List.all_eq_true.1 hd x (by simp [hop, Op.operands])
     unfold dataAt at this
     rw [q1] at this
     exact this
    refine ⟨?_, z, g1, RN.of_closed g2⟩
    rw [e1]
    have : ∀ H2 : Heap, aconvert T sr ds v H2 = aconvert T sr ds v h := fun H2 => by
     unfold aconvert
     split <;> first | rfl | (simp [closed, plain] at hcl)
    rw [this]; exact h0
  ·cases hv
 ·rename_i fn fs cs hop
  unfold aop
  rw [hop]
  split at hv
  ·rename_i l k hl hk
   obtain ⟨l', k1, k2⟩ := aevals_rn (fun x hx => ht x (by simp [hop, Op.operands] at hx ⊢; exact .inl hx)) hl
   obtain ⟨c', k3, k4⟩ := aevals_rn (fun x hx => ht x (by simp [hop, Op.operands] at hx ⊢; exact .inr hx)) hk
   simp only [k1, k3]
   cases hv
   have g1 : RNs e l.toArray.toList l'.toArray.toList := by simpa using k2
   have g2 : RNs e k.toArray.toList c'.toArray.toList := by simpa using k4
   exact ⟨_, H, e, rfl, hn, Ex.refl _ _ _, .val (.func g1.arr.1 g1.arr.2 g2.arr.1 g2.arr.2)⟩
  ·cases hv
 ·rename_i t x hop
  unfold aop
  rw [hop]
  split at hv
  ·cases hv
  ·rename_i v d hu q1 q2
   obtain ⟨v', k1, k2⟩ := ht x (by simp [hop, Op.operands]) _ q1
   cases hv
   simp only [k1, q2]
   exact ⟨_, H, e, rfl, hn, Ex.refl _ _ _, .val (.iface k2)⟩
  ·cases hv
 ·rename_i t l c hop
  unfold aop
  rw [hop]
  split at hv
  ·rename_i u v q1 q2
   obtain ⟨u', k1, k2⟩ := ht l (by simp [hop, Op.operands]) _ q1
   obtain ⟨v', k3, k4⟩ := ht c (by simp [hop, Op.operands]) _ q2
   simp only [k1, k3]
   exact goodn_val2 hv fun w hq => amakeSlice_rn hq hn k2 k4
  ·cases hv
 ·rename_i t x lo hi mx hop
  unfold aop
  rw [hop]
  split at hv
  ·rename_i v l hh m q1 q2 q3 q4
   obtain ⟨v', k1, k2⟩ := ht x (by simp [hop, Op.operands]) _ q1
   obtain ⟨l', k3, k4⟩ := aevalo_rn (fun y hy => ht y (by simp [hop, Op.operands] at hy ⊢; simp [hy])) q2
   obtain ⟨hh', k5, k6⟩ := aevalo_rn (fun y hy => ht y (by simp [hop, Op.operands] at hy ⊢; simp [hy])) q3
   obtain ⟨m', k7, k8⟩ := aevalo_rn (fun y hy => ht y (by simp [hop, Op.operands] at hy ⊢; simp [hy])) q4
   simp only [k1, k3, k5, k7]
   refine goodn_or hv hn (fun z hz => aslice_rn hz k2 k4 k6 k8) fun z h0 hz => ?_
   obtain ⟨g1, g2⟩ := fallback_rn ht (by rw [hop]; simp) hz
   have hd := fallback_data hz
   have hq := aeval_same ht hd
   have e1 : v' = v := by have := hq x (by simp [hop, Op.operands]); rw [k1, q1] at this; exact Option.some.inj this
   have eo : ∀ (y : Option Operand) (p p' : Option Value), (∀ z ∈ y.toList, z ∈ o.op.operands.toList) → aevalo tm y = some p → aevalo tm' y = some p' → p' = p := by
    intro y p p' hy a1 a2
    cases y with
    | none => simp only [aevalo] at a1 a2; cases a1; cases a2; rfl
    | some y =>
     have := hq y (hy y (by simp))
     simp only [aevalo, this] at a1 a2
     rw [a1] at a2; cases a2; rfl
   have e2 := eo lo _ _ (fun z hz => by simp [hop, Op.operands] at hz ⊢; simp [hz]) q2 k3
   have e3 := eo hi _ _ (fun z hz => by simp [hop, Op.operands] at hz ⊢; simp [hz]) q3 k5
   have e4 := eo mx _ _ (fun z hz => by simp [hop, Op.operands] at hz ⊢; simp [hz]) q4 k7
   exact ⟨by rw [e1, e2, e3, e4]; exact h0, z, g1, RN.of_closed g2⟩
  ·cases hv
 ·rename_i s x f hop
  unfold aop
  rw [hop]
  split at hv
  ·rename_i v q1
   obtain ⟨v', k1, k2⟩ := ht x (by simp [hop, Op.operands]) _ q1
   simp only [k1]
   exact goodn_val hv hn fun w hq => afield_rn hq k2
  ·cases hv
 ·rename_i t x f hop
  unfold aop
  rw [hop]
  split at hv
  ·rename_i cs fields q1 q2
   obtain ⟨v', k1, k2⟩ := ht x (by simp [hop, Op.operands]) _ q1
   split at hv
   ·rename_i fd hfd
    cases k2 with
    | same hp => simp [plain] at hp
    | agg hs hx =>
     simp only [k1, q2, hfd]
     exact goodn_val hv hn fun w hq => apart_rn hq (RNs.of_arr hs hx)
   ·cases hv
  ·cases hv
 ·rename_i t x ix hop
  unfold aop
  rw [hop]
  split at hv
  ·rename_i u v q1 q2
   obtain ⟨u', k1, k2⟩ := ht x (by simp [hop, Op.operands]) _ q1
   obtain ⟨v', k3, k4⟩ := ht ix (by simp [hop, Op.operands]) _ q2
   simp only [k1, k3]
   exact goodn_val hv hn fun w hq => aindexAddr_rn hq k2 k4
  ·cases hv
 ·rename_i t x ix hop
  unfold aop
  rw [hop]
  split at hv
  ·rename_i u v q1 q2
   obtain ⟨u', k1, k2⟩ := ht x (by simp [hop, Op.operands]) _ q1
   obtain ⟨v', k3, k4⟩ := ht ix (by simp [hop, Op.operands]) _ q2
   simp only [k1, k3]
   refine goodn_or hv hn (fun z hz => aindex_rn hz k2 k4) fun z h0 hz => ?_
   obtain ⟨g1, g2⟩ := fallback_rn ht (by rw [hop]; simp) hz
   have hq := aeval_same ht (fallback_data hz)
   have e1 : u' = u := by have := hq x (by simp [hop, Op.operands]); rw [k1, q1] at this; exact Option.some.inj this
   have e2 : v' = v := by have := hq ix (by simp [hop, Op.operands]); rw [k3, q2] at this; exact Option.some.inj this
   exact ⟨by rw [e1, e2]; exact h0, z, g1, RN.of_closed g2⟩
  ·cases hv
 ·rename_i x i hop
  unfold aop
  rw [hop]
  split at hv
  ·rename_i vs q1
   obtain ⟨v', k1, k2⟩ := ht x (by simp [hop, Op.operands]) _ q1
   cases k2 with
   | same hp => simp [plain] at hp
   | tuple hs hx =>
    simp only [k1]
    refine goodn_val hv hn fun w hq => ?_
    obtain ⟨y, g1, g2⟩ := (RNs.of_arr hs hx).2 i w (by simpa using hq)
    exact ⟨y, by simpa using g1, g2⟩
  ·cases hv
 ·rename_i c hop
  unfold aop
  rw [hop]
  exact acall_rn hop hv hn ht
 ·rename_i op t x hne hop
  have key : GoodN e h H (val (fallback P tm' o) H) r h1 := goodn_val hv hn fun z hz => by
   obtain ⟨g1, g2⟩ := fallback_rn ht (by rw [hop]; simp) hz
   exact ⟨z, g1, RN.of_closed g2⟩
  unfold aop
  rw [hop]
  cases op <;> first | exact absurd rfl hne | exact key
 ·cases hv
end
end Go.Ev
end
section
namespace Go.Ev
open Go
set_option linter.unusedVariables false
set_option linter.unusedSimpArgs false
def Em.comp (f e : Em) : Em := fun b => match f b with | none => none | some none => some none | some (some c) => e c
theorem RN.comp {f e : Em} {v w : Value} (h : RN f v w) : ∀ {v' : Value}, RN e w v' → RN (f.comp e) v v' := by
 induction h with
 | same hp => intro v' k; cases k.plain_eq hp; exact .same hp
 | ptr h1 => intro v' k; cases k with
  | same hp => simp [plain] at hp
  | ptr h2 => exact .ptr (by simp only [Em.comp, h1, h2])
 | slice h1 => intro v' k; cases k with
  | same hp => simp [plain] at hp
  | slice h2 => exact .slice (by simp only [Em.comp, h1, h2])
  | nils h2 hc => exact .nils (by simp only [Em.comp, h1, h2]) hc
 | nils h1 hc => intro v' k; cases k.plain_eq rfl; exact .nils (by simp only [Em.comp, h1]) hc
 | agg hs _ ih => intro v' k; cases k with
  | same hp => simp [plain] at hp
  | agg hs2 h2 => exact .agg (hs.trans hs2) fun i h3 h4 => ih i h3 (by omega) (h2 i (by omega) h4)
 | tuple hs _ ih => intro v' k; cases k with
  | same hp => simp [plain] at hp
  | tuple hs2 h2 => exact .tuple (hs.trans hs2) fun i h3 h4 => ih i h3 (by omega) (h2 i (by omega) h4)
 | func hs _ ht _ ih ih' => intro v' k; cases k with
  | same hp => simp [plain] at hp
  | func hs2 h2 ht2 k2 => exact .func (hs.trans hs2) (fun i h3 h4 => ih i h3 (by omega) (h2 i (by omega) h4)) (ht.trans ht2) fun i h3 h4 => ih' i h3 (by omega) (k2 i (by omega) h4)
 | iface _ ih => intro v' k; cases k with
  | same hp => simp [plain] at hp
  | iface h2 => exact .iface (ih h2)
theorem RNs.comp {f e : Em} {l m n : List Value} (h : RNs f l m) (k : RNs e m n) : RNs (f.comp e) l n :=
 ⟨h.1.trans k.1, fun i x hx => by
  obtain ⟨y, hy, h2⟩ := h.2 i x hx
  obtain ⟨z, hz, k2⟩ := k.2 i y hy
  exact ⟨z, hz, h2.comp k2⟩⟩
theorem RN.factor {f e g : Em} (hfe : ∀ b x, f b = some x → g b = match x with | none => some none | some c => e c) {x w : Value} (h : RN f x w) : ∀ {v' : Value}, RN g x v' → RN e w v' := by
 induction h with
 | same hp => intro v' k; cases k.plain_eq hp; exact .same hp
 | ptr h1 => intro v' k; cases k with
  | same hp => simp [plain] at hp
  | ptr h2 => exact .ptr (by have := hfe _ _ h1; rw [h2] at this; exact this.symm)
 | slice h1 => intro v' k; cases k with
  | same hp => simp [plain] at hp
  | slice h2 => exact .slice (by have := hfe _ _ h1; rw [h2] at this; exact this.symm)
  | nils h2 hc => exact .nils (by have := hfe _ _ h1; rw [h2] at this; exact this.symm) hc
 | nils h1 hc => intro v' k; cases k with
  | same hp => simp [plain] at hp
  | slice h2 => have := hfe _ _ h1; rw [h2] at this; cases this
  | nils h2 hc => exact .same rfl
 | agg hs _ ih => intro v' k; cases k with
  | same hp => simp [plain] at hp
  | agg hs2 h2 => exact .agg (hs.symm.trans hs2) fun i h3 h4 => ih i (by omega) h3 (h2 i (by omega) h4)
 | tuple hs _ ih => intro v' k; cases k with
  | same hp => simp [plain] at hp
  | tuple hs2 h2 => exact .tuple (hs.symm.trans hs2) fun i h3 h4 => ih i (by omega) h3 (h2 i (by omega) h4)
 | func hs _ ht _ ih ih' => intro v' k; cases k with
  | same hp => simp [plain] at hp
  | func hs2 h2 ht2 k2 => exact .func (hs.symm.trans hs2) (fun i h3 h4 => ih i (by omega) h3 (h2 i (by omega) h4)) (ht.symm.trans ht2) fun i h3 h4 => ih' i (by omega) h3 (k2 i (by omega) h4)
 | iface _ ih => intro v' k; cases k with
  | same hp => simp [plain] at hp
  | iface h2 => exact .iface (ih h2)
theorem RNs.factor {f e g : Em} (hfe : ∀ b x, f b = some x → g b = match x with | none => some none | some c => e c) {l m n : List Value} (h : RNs f l m) (k : RNs g l n) : RNs e m n :=
 ⟨h.1.symm.trans k.1, fun i y hy => by
  have hi : i < l.length := by rw [h.1]; exact (List.getElem?_eq_some_iff.1 hy).1
  obtain ⟨y', hy', h2⟩ := h.2 i _ (List.getElem?_eq_getElem hi)
  obtain ⟨z, hz, k2⟩ := k.2 i _ (List.getElem?_eq_getElem hi)
  rw [hy] at hy'; cases hy'
  exact ⟨z, hz, h2.factor hfe k2⟩⟩
theorem comp_some {f e : Em} {b : Nat} {d : Option Nat} (h : f.comp e b = some d) : (f b = some none ∧ d = none) ∨ ∃ c, f b = some (some c) ∧ e c = some d := by
 unfold Em.comp at h
 split at h
 ·cases h
 ·rename_i q; cases h; exact .inl ⟨q, rfl⟩
 ·rename_i c q; exact .inr ⟨c, q, h⟩
theorem HN.comp {f e : Em} {k h H : Heap} (a : HN f k h) (b : HN e h H) : HN (f.comp e) k H where
 wf := a.wf
 dom := fun x y q => by
  rcases comp_some q with ⟨q, _⟩ | ⟨c, q, _⟩
  ·exact a.dom _ _ q
  ·exact a.dom _ _ q
 rng := fun x y q => by
  rcases comp_some q with ⟨_, q⟩ | ⟨c, _, q⟩
  ·cases q
  ·exact b.rng _ _ q
 blk := fun x y o ho q => by
  rcases comp_some q with ⟨_, q⟩ | ⟨c, q1, q2⟩
  ·cases q
  ·obtain ⟨l, g1, g2⟩ := a.blk x c o ho q1
   obtain ⟨m, g3, g4⟩ := b.blk c y _ g1 q2
   exact ⟨m, g3, g2.comp g4⟩
 gh := fun x o ho q => by
  rcases comp_some q with ⟨q, _⟩ | ⟨c, q1, q2⟩
  ·exact a.gh x o ho q
  ·obtain ⟨l, g1, g2⟩ := a.blk x c o ho q1
   have : l = [] := b.gh c _ g1 q2
   subst this
   exact List.eq_nil_of_length_eq_zero g2.1
 inj := fun x y c q1 q2 l1 l2 => by
  rcases comp_some q1 with ⟨_, q⟩ | ⟨c1, p1, p2⟩
  ·cases q
  rcases comp_some q2 with ⟨_, q⟩ | ⟨c2, p3, p4⟩
  ·cases q
  obtain ⟨o1, h1⟩ := Option.isSome_iff_exists.1 l1
  obtain ⟨o2, h2⟩ := Option.isSome_iff_exists.1 l2
  obtain ⟨_, g1, _⟩ := a.blk x c1 _ h1 p1
  obtain ⟨_, g2, _⟩ := a.blk y c2 _ h2 p3
  have := b.inj c1 c2 c p2 p4 (by rw [g1]; rfl) (by rw [g2]; rfl)
  subst this
  exact a.inj x y c1 p1 p3 l1 l2
structure Cx where
 h0 : Heap
 e0 : Em
 H0 : Heap
 ok : HN e0 h0 H0
structure CX (X : Cx) (e : Em) (h H : Heap) : Prop where
 hn : HN e h H
 ex : Ex X.e0 e X.h0 X.H0 h H
theorem CX.next {X : Cx} {e e1 : Em} {h H h1 H1 : Heap} (h0 : HN X.e0 X.h0 X.H0) (c : CX X e h H) (hn : HN e1 h1 H1) (ex : Ex e e1 h H h1 H1) : CX X e1 h1 H1 := ⟨hn, c.ex.trans h0 ex⟩
structure Sub (n0 : Nat) (f : Em) (k h : Heap) : Prop where
 hn : HN f k h
 fix : ∀ b, b < n0 → f b = some (some b)
 new : ∀ b c, n0 ≤ b → f b = some (some c) → n0 ≤ c ∨ (k.get c = none ∧ (h.get c).isSome)
 le : n0 ≤ k.n
theorem Sub.cx {X : Cx} (h0 : HN X.e0 X.h0 X.H0) {f e : Em} {k h H : Heap} (s : Sub X.h0.n f k h) (c : CX X e h H) : CX X (f.comp e) k H where
 hn := s.hn.comp c.hn
 ex := {
  le := fun b x q => by
   have := h0.dom _ _ q
   simp only [Em.comp, s.fix b this]
   exact c.ex.le _ _ q
  new := fun b x q => by
   by_cases hb : b < X.h0.n
   ·simp only [Em.comp, s.fix b hb] at q
    rcases c.ex.new _ _ q with k | ⟨k, _⟩
    ·exact .inl k
    ·omega
   ·rcases comp_some q with ⟨_, rfl⟩ | ⟨d, q1, q2⟩
    ·exact .inr ⟨by omega, fun c q => by cases q⟩
    ·have hdead : ∀ b0, b0 < X.h0.n → h.get b0 = none → k.get b0 = none := fun b0 hlt g => by
       cases ho : k.get b0 with
       | none => rfl
       | some o =>
        obtain ⟨l, g1, _⟩ := s.hn.blk b0 b0 o ho (s.fix b0 hlt)
        rw [g] at g1; cases g1
     rcases c.ex.new _ _ q2 with g | ⟨g0, g⟩
     ·have hlt := h0.dom _ _ g
      rcases s.new b d (by omega) q1 with g2 | ⟨g2, g3⟩
      ·omega
      ·refine .inr ⟨by omega, fun c' q => .inr ⟨d, by rw [g, q], ?_, g2⟩⟩
       cases g5 : X.h0.get d with
       | some _ => rfl
       | none => rw [c.ex.lv d hlt g5] at g3; cases g3
     ·exact .inr ⟨by omega, fun c' q => (g c' q).imp id fun ⟨b0, g1, g2, g3⟩ => ⟨b0, g1, g2, hdead b0 (h0.dom _ _ g1) g3⟩⟩
  hn := s.le
  Hn := c.ex.Hn
  keep := c.ex.keep
  lv := fun b hb q => by
   cases ho : k.get b with
   | none => rfl
   | some o =>
    obtain ⟨l, g1, _⟩ := s.hn.blk b b o ho (s.fix b hb)
    rw [c.ex.lv b hb q] at g1; cases g1 }
theorem TE.comp {f e : Em} {a b c : Tr Value} (h : TE f a b) (k : TE e b c) : TE (f.comp e) a c := fun t v q => by
 obtain ⟨w, h1, h2⟩ := h t v q
 obtain ⟨z, k1, k2⟩ := k t w h1
 exact ⟨z, k1, h2.comp k2⟩
def KE (X : Cx) : List Kf → Em → List Kf → Prop
 | [], _, K' => K' = []
 | .next b :: K, e, K' => ∃ L, K' = .next b :: L ∧ KE X K e L
 | .blk i :: K, e, K' => ∃ L, K' = .blk i :: L ∧ KE X K e L
 | .loop a :: K, e, K' => ∃ L, K' = .loop a :: L ∧ KE X K e L
 | .inv R :: K, e, K' => ∃ R' L, K' = .inv R' :: L ∧ (∀ s e1 H tm', CX X e1 s.H H → TE e1 s.tm tm' → KE X K e1 L → R s → R' ⟨tm', H⟩) ∧ KE X K e L
 | .call n dst tm ops l rs :: K, e, K' => ∃ tm' L, K' = .call n dst tm' ops l rs :: L ∧ TE e tm tm' ∧ KE X K e L
theorem KE.mono {X : Cx} {e e1 : Em} (he : e.le e1) : ∀ {K K' : List Kf}, KE X K e K' → KE X K e1 K' := by
 intro K
 induction K with
 | nil => intro K' h; exact h
 | cons k K ih =>
  intro K' h
  cases k with
  | next b => obtain ⟨L, h1, h2⟩ := h; exact ⟨L, h1, ih h2⟩
  | blk b => obtain ⟨L, h1, h2⟩ := h; exact ⟨L, h1, ih h2⟩
  | loop b => obtain ⟨L, h1, h2⟩ := h; exact ⟨L, h1, ih h2⟩
  | inv R => obtain ⟨R', L, h1, h2, h3⟩ := h; exact ⟨R', L, h1, h2, ih h3⟩
  | call n dst tm ops l rs => obtain ⟨tm', L, h1, h2, h3⟩ := h; exact ⟨tm', L, h1, h2.mono he, ih h3⟩
def fix0 (f : Em) : Value → Bool
 | .pointer (some ⟨b, _, none⟩) => match f b with | some (some c) => c.beq b | _ => false
 | .slice (some ⟨b, _, none⟩) _ _ => match f b with | some (some c) => c.beq b | _ => false
 | v => plain v
def fix1 (f : Em) : Value → Bool
 | .agg cs => cs.toList.all (fix0 f)
 | .tuple cs => cs.toList.all (fix0 f)
 | .func _ a b => a.toList.all (fix0 f) && b.toList.all (fix0 f)
 | .iface _ v => fix0 f v
 | v => fix0 f v
theorem fix0_sound {f : Em} {v : Value} (h : fix0 f v = true) : RN f v v := by
 unfold fix0 at h
 split at h
 ·split at h
  ·rename_i q; have := Nat.eq_of_beq_eq_true h; subst this; exact .ptr q
  ·cases h
 ·split at h
  ·rename_i q; have := Nat.eq_of_beq_eq_true h; subst this; exact .slice q
  ·cases h
 ·exact .same h
theorem fixs_sound {f : Em} {a : Array Value} (h : a.toList.all (fix0 f) = true) : ∀ i (h1 : i < a.size) (h2 : i < a.size), RN f a[i] a[i] := fun i h1 h2 => fix0_sound (List.all_eq_true.1 h _ (by simp))
theorem fix1_sound {f : Em} {v : Value} (h : fix1 f v = true) : RN f v v := by
 unfold fix1 at h
 split at h
 ·exact .agg rfl (fixs_sound h)
 ·exact .tuple rfl (fixs_sound h)
 ·rw [Bool.and_eq_true] at h; exact .func rfl (fixs_sound h.1) rfl (fixs_sound h.2)
 ·exact .iface (fix0_sound h)
 ·exact fix0_sound h
def Tr.all {α : Type} (p : α → Bool) : Tr α → Bool
 | .lf => true
 | .nd l none r => l.all p && r.all p
 | .nd l (some v) r => p v && l.all p && r.all p
theorem Tr.all_sound {α : Type} {p : α → Bool} : ∀ (t : Tr α) (i : Nat) (v : α), t.all p = true → t.get i = some v → p v = true := by
 intro t
 induction t with
 | lf => intro i v _ h; simp [Tr.get] at h
 | nd l x r ih1 ih2 =>
  intro i v h k
  have hx : l.all p = true ∧ r.all p = true ∧ ∀ u, x = some u → p u = true := by
   cases x with
   | none => simp only [Tr.all, Bool.and_eq_true] at h; exact ⟨h.1, h.2, fun u q => by cases q⟩
   | some u => simp only [Tr.all, Bool.and_eq_true] at h; exact ⟨h.1.2, h.2, fun u q => by cases q; exact h.1.1⟩
  cases i with
  | zero => simp only [Tr.get] at k; exact hx.2.2 _ k
  | succ i =>
   simp only [Tr.get] at k
   cases hb : (i % 2).beq 0
   ·rw [hb] at k; exact ih2 _ _ hx.2.1 k
   ·rw [hb] at k; exact ih1 _ _ hx.1 k
def kfix (f : Em) : List Kf → Bool
 | [] => true
 | .call _ _ tm _ _ _ :: K => tm.all (fix1 f) && kfix f K
 | _ :: K => kfix f K
theorem KE.re {X : Cx} {f e : Em} : ∀ {K K' : List Kf}, kfix f K = true → KE X K e K' → KE X K (f.comp e) K' := by
 intro K
 induction K with
 | nil => intro K' _ h; exact h
 | cons k K ih =>
  intro K' hf h
  cases k with
  | next b => obtain ⟨L, h1, h2⟩ := h; exact ⟨L, h1, ih hf h2⟩
  | blk b => obtain ⟨L, h1, h2⟩ := h; exact ⟨L, h1, ih hf h2⟩
  | loop b => obtain ⟨L, h1, h2⟩ := h; exact ⟨L, h1, ih hf h2⟩
  | inv R => obtain ⟨R', L, h1, h2, h3⟩ := h; exact ⟨R', L, h1, h2, ih hf h3⟩
  | call n dst tm ops l rs =>
   obtain ⟨tm', L, h1, h2, h3⟩ := h
   simp only [kfix, Bool.and_eq_true] at hf
   exact ⟨tm', L, h1, TE.comp (fun t v q => ⟨v, q, fix1_sound (Tr.all_sound _ _ _ hf.1 q)⟩) h2, ih hf.2 h3⟩
section
variable (P : Program) (T : Tab) (X : Cx)
def SD (Q : Xt → St → Prop) (c : Cf) : Prop := ∀ e H tm' K', CX X e c.s.H H → TE e c.s.tm tm' → KE X c.K e K' → Den P T ⟨c.n, c.p, K', ⟨tm', H⟩⟩ Q
def SCall (f : FuncId) (args : Array Value) (h : Heap) (R : Value → Heap → Prop) : Prop :=
 ∀ e args' H, HN e h H → RNs e args.toList args'.toList → ACall P T f args' H fun v' H1 => ∃ v h1 e1, R v h1 ∧ HN e1 h1 H1 ∧ Ex e e1 h H h1 H1 ∧ RN e1 v v'
def QF (rs : Array ResultVar) (R : Value → Heap → Prop) : Xt → St → Prop := bodyQ T rs fun v' H1 => ∃ v h1 e1, R v h1 ∧ HN e1 h1 H1 ∧ Ex X.e0 e1 X.h0 X.H0 h1 H1 ∧ RN e1 v v'
def dat0 : Value → Bool | .bool _ | .int _ _ | .string _ => true | _ => false
def dat : Value → Bool | .agg cs => cs.toList.all dat0 | v => dat0 v
class OrcDat : Prop where
 dat : ∀ f l v, T.orc f l = some v → closed v = true ∧ l.all dat = true
def guardP (tm : Tr Value) (ops : Array Oper) (o : Oper) : Bool := match o.guard with
 | none => true
 | some (j, _) => match (ops[j]?).bind (·.dst) with | some d => (tm.get d).isSome | none => true
def strictO (tm : Tr Value) (ops : Array Oper) (o : Oper) : Bool := guardP tm ops o && (!awanted ops tm o || (o.op.operands.toList.all (pres tm) && okB tm o.op))
def presR (tm : Tr Value) : ResultVar → Bool
 | .tmp t => (tm.get t).isSome
 | .cell a _ => (tm.get a).isSome
def presK (tm : Tr Value) : List Kf → Bool
 | .call _ _ _ _ _ rs :: _ => rs.toList.all (presR tm)
 | _ => true
def stepS (c : Cf) : Option Cf :=
 match c.p with
 | .code a => (match a with | .cond x _ _ => bif pres c.s.tm x then stepF P T c else none | _ => stepF P T c)
 | .ops ops (o :: _) => bif strictO c.s.tm ops o then stepF P T c else none
 | .ops _ [] => stepF P T c
 | .done _ => bif presK c.s.tm c.K then stepF P T c else none
def goS : Nat → Cf → Cf
 | 0, c => c
 | k + 1, c => match stepS P T c with
  | some c' => goS k c'
  | none => c
end
section
variable {P : Program} {T : Tab} {X : Cx} {Q : Xt → St → Prop} {c c' : Cf}
theorem dat0_plain {v : Value} (h : dat0 v = true) : plain v = true := by cases v <;> first | rfl | cases h
theorem dat_closed {v : Value} (h : dat v = true) : closed v = true := by
 unfold dat at h
 split at h
 ·unfold closed; rw [List.all_eq_true] at h ⊢; exact fun x hx => dat0_plain (h x hx)
 ·have := dat0_plain h; cases v <;> first | exact this | cases h
theorem RN.dat0_eq {e : Em} {v v' : Value} (h : RN e v v') (hd : dat0 v' = true) : v = v' := by
 cases h <;> first | rfl | cases hd
theorem RN.dat_eq {e : Em} {v v' : Value} (h : RN e v v') (hd : dat v' = true) : v = v' := by
 cases h with
 | same hp => rfl
 | agg hs h =>
  simp only [dat, List.all_eq_true] at hd
  congr 1
  exact Array.ext hs fun i h1 h2 => (h i h1 h2).dat0_eq (hd _ (by simp))
 | _ => cases hd
theorem RNs.dat_eq {e : Em} {l l' : List Value} (h : RNs e l l') (hd : l'.all dat = true) : l = l' := by
 refine List.ext_getElem h.1 fun i h1 h2 => ?_
 obtain ⟨y, hy, hv⟩ := h.2 i _ (List.getElem?_eq_getElem h1)
 rw [List.getElem?_eq_getElem h2] at hy; cases hy
 exact hv.dat_eq (List.all_eq_true.1 hd _ (by simp))
theorem RNs.closed_eq {e : Em} {l l' : List Value} (h : RNs e l l') (hd : l.all closed = true) : l' = l := by
 refine List.ext_getElem h.1.symm fun i h1 h2 => ?_
 obtain ⟨y, hy, hv⟩ := h.2 i _ (List.getElem?_eq_getElem h2)
 rw [List.getElem?_eq_getElem h1] at hy; cases hy
 exact hv.closed_eq (List.all_eq_true.1 hd _ (by simp))
theorem OrcDat.rn (hO : OrcDat T) {f : FuncId} {e : Em} {a a' : Array Value} (h : RNs e a.toList a'.toList) : T.orc f a'.toList = T.orc f a.toList := by
 cases h1 : T.orc f a.toList with
 | some v =>
  obtain ⟨_, h3⟩ := hO.dat _ _ _ h1
  rw [h.closed_eq (by rw [List.all_eq_true] at h3 ⊢; exact fun x hx => dat_closed (h3 x hx)), h1]
 | none =>
  cases h2 : T.orc f a'.toList with
  | none => rfl
  | some v =>
   obtain ⟨_, h3⟩ := hO.dat _ _ _ h2
   rw [h.dat_eq h3, h2] at h1; cases h1
theorem awanted_rn {e : Em} {tm tm' : Tr Value} {ops : Array Oper} {o : Oper} (ht : TE e tm tm') (hg : guardP tm ops o = true) : awanted ops tm' o = awanted ops tm o := by
 unfold guardP at hg
 unfold awanted
 split at hg
 ·rename_i q; simp only [q]
 ·rename_i j w q
  simp only [q]
  split at hg
  ·rename_i d q2
   simp only [q2]
   obtain ⟨v, hv⟩ := Option.isSome_iff_exists.1 hg
   obtain ⟨v', k1, k2⟩ := ht d v hv
   simp only [hv, k1]
   cases k2 with
   | same hp => rfl
   | _ => rfl
  ·rename_i q2; simp only [q2]
theorem results_rn {e : Em} {tm tm' : Tr Value} {h H : Heap} (ht : TE e tm tm') (hn : HN e h H) : ∀ (l : List ResultVar) (r : List Value), l.all (presR tm) = true → results1 T tm h l = some r → ∃ r', results1 T tm' H l = some r' ∧ RNs e r r' := by
 intro l
 induction l with
 | nil => intro r _ q; simp only [results1] at q ⊢; cases q; exact ⟨_, rfl, RNs.nil⟩
 | cons x l ih =>
  intro r hp q
  simp only [List.all_cons, Bool.and_eq_true] at hp
  cases x with
  | tmp t =>
   simp only [results1] at q
   split at q
   ·rename_i l1 q1
    cases q
    obtain ⟨r', k1, k2⟩ := ih _ hp.2 q1
    obtain ⟨v, hv⟩ := Option.isSome_iff_exists.1 (show (tm.get t).isSome = true from hp.1)
    obtain ⟨v', g1, g2⟩ := ht t v hv
    refine ⟨v' :: r', by simp only [results1, k1, g1, Option.getD_some], ?_⟩
    rw [hv]
    exact RNs.cons g2 k2
   ·cases q
  | cell a t =>
   simp only [results1] at q
   split at q
   ·rename_i w l1 q1 q2
    cases q
    obtain ⟨r', k1, k2⟩ := ih _ hp.2 q2
    obtain ⟨v, hv⟩ := Option.isSome_iff_exists.1 (show (tm.get a).isSome = true from hp.1)
    obtain ⟨v', g1, g2⟩ := ht a v hv
    rw [hv] at q1
    obtain ⟨w', g3, g4⟩ := aload_rn q1 hn g2
    exact ⟨w' :: r', by simp only [results1, k1, g1, Option.getD_some, g3], RNs.cons g4 k2⟩
   ·cases q
theorem aresults_rn {e : Em} {tm tm' : Tr Value} {h H : Heap} (ht : TE e tm tm') (hn : HN e h H) {rs : Array ResultVar} {v : Value} (hp : rs.toList.all (presR tm) = true) (hv : aresults T tm h rs = some v) : ∃ v', aresults T tm' H rs = some v' ∧ RN e v v' := by
 unfold aresults at hv ⊢
 split at hv
 ·rename_i u q
  cases hv
  obtain ⟨r', k1, k2⟩ := results_rn ht hn _ _ hp q
  obtain ⟨y, hy, hr⟩ := k2.2 0 v rfl
  have : r' = [y] := by
   match r', k2.1, hy with
   | [p], _, hy => simp at hy; subst hy; rfl
  subst this
  simp only [k1]
  exact ⟨_, rfl, hr⟩
 ·rename_i l hne q
  cases hv
  obtain ⟨r', k1, k2⟩ := results_rn ht hn _ _ hp q
  simp only [k1]
  have hne' : ∀ u, r' ≠ [u] := fun u q2 => by
   subst q2
   have := k2.1
   match l, this, hne with
   | [p], _, hne => exact hne p rfl
  split
  ·rename_i u q3; cases q3; exact absurd rfl (hne' _)
  ·rename_i l2 _ q3; cases q3; exact ⟨_, rfl, RNs.tuple k2⟩
  ·rename_i q3; cases q3
 ·cases hv
theorem den_put {e : Em} {n : Nat} {K K' : List Kf} {ops : Array Oper} {l : List Oper} {dst : Option Tmp} {tm tm' : Tr Value} {v v' : Value} {h H : Heap} (hd : SD P T X Q c') (hp : sPut n K ops l dst tm v h = some c') (hx : CX X e h H) (ht : TE e tm tm') (hk : KE X K e K') (hv : RN e v v') :
    ∃ c2, sPut n K' ops l dst tm' v' H = some c2 ∧ Den P T c2 Q := by
 unfold sPut at hp ⊢
 cases dst with
 | none =>
  simp only [dput] at hp ⊢
  cases hp
  exact ⟨_, rfl, hd e H tm' K' hx ht hk⟩
 | some d =>
  simp only [dput] at hp ⊢
  cases hb : d.blt n
  ·rw [hb] at hp; cases hp
  ·rw [hb] at hp
   simp only [cond_true] at hp ⊢
   cases hp
   exact ⟨_, rfl, hd e H _ K' hx (ht.put d hv) hk⟩
theorem init_te {e : Em} : ∀ (l l' : List Value) (k : Nat) (t t' : Tr Value), RNs e l l' → TE e t t' → TE e (initTm.go l k t) (initTm.go l' k t') := by
 intro l
 induction l with
 | nil =>
  intro l' k t t' h ht
  have : l' = [] := List.eq_nil_of_length_eq_zero (by have := h.1; simp at this; exact this.symm)
  subst this
  exact ht
 | cons x l ih =>
  intro l' k t t' h ht
  cases l' with
  | nil => have := h.1; simp at this
  | cons y l' =>
   obtain ⟨y', hy, hv⟩ := h.2 0 x (by simp)
   simp at hy
   subst hy
   simp only [initTm.go]
   exact ih l' (k + 1) _ _ ⟨by have := h.1; simpa using this, fun i z hz => by simpa using h.2 (i + 1) z (by simpa using hz)⟩ (ht.put k hv)
theorem init_rn {e : Em} {a a' : Array Value} (h : RNs e a.toList a'.toList) : TE e (initTm 0 a) (initTm 0 a') := init_te _ _ _ _ _ h fun t v q => by simp [Tr.get] at q
variable (h0 : HN X.e0 X.h0 X.H0) (hO : OrcDat T)
include h0 hO
theorem stepS_sound (h : stepS P T c = some c') (hd : SD P T X Q c') : SD P T X Q c := by
 intro e H tm' K' hx ht hk
 obtain ⟨n, p, K, s⟩ := c
 simp only at hx ht hk ⊢
 cases p with
 | code a =>
  have hs : sCode T n K s a = some c' ∧ ∀ x p q, a = .cond x p q → pres s.tm x = true := by
   unfold stepS at h
   simp only at h
   split at h
   ·rename_i x p q
    cases hb : pres s.tm x
    ·rw [hb] at h; cases h
    ·rw [hb] at h; exact ⟨h, fun x' p' q' k => by cases k; exact hb⟩
   ·rename_i hne; exact ⟨h, fun x p q k => absurd k (hne x p q)⟩
  obtain ⟨h, hpc⟩ := hs
  suffices ∃ c2, sCode T n K' ⟨tm', H⟩ a = some c2 ∧ Den P T c2 Q by
   obtain ⟨c2, k1, k2⟩ := this
   exact stepF_sound (show stepF P T ⟨n, .code a, K', ⟨tm', H⟩⟩ = some c2 from k1) k2
  unfold sCode at h ⊢
  cases a with
  | skip => cases h; exact ⟨_, rfl, hd e H tm' K' hx ht hk⟩
  | label i => cases h; exact ⟨_, rfl, hd e H tm' K' hx ht hk⟩
  | ret => cases h; exact ⟨_, rfl, hd e H tm' K' hx ht hk⟩
  | exit i => cases h; exact ⟨_, rfl, hd e H tm' K' hx ht hk⟩
  | seq a b => cases h; exact ⟨_, rfl, hd e H tm' _ hx ht ⟨_, rfl, hk⟩⟩
  | block i a => cases h; exact ⟨_, rfl, hd e H tm' _ hx ht ⟨_, rfl, hk⟩⟩
  | scope a => cases h; exact ⟨_, rfl, hd e H tm' K' hx ht hk⟩
  | loop a => cases h; exact ⟨_, rfl, hd e H tm' _ hx ht ⟨_, rfl, hk⟩⟩
  | cond x a b =>
   simp only at h
   split at h
   ·rename_i t q
    cases h
    obtain ⟨v', k1, k2⟩ := TE.op (xs := [x]) ht (by simp [hpc x a b rfl]) x (by simp) _ q
    cases k2.plain_eq rfl
    simp only [k1]
    exact ⟨_, rfl, hd e H tm' K' hx ht hk⟩
   ·cases h
  | region i ops draw =>
   simp only at h ⊢
   cases hb : (draw && !(loose T ops).isEmpty)
   ·rw [hb] at h; cases h; exact ⟨_, rfl, hd e H tm' K' hx ht hk⟩
   ·rw [hb] at h; cases h
  | _ => cases h
 | ops ops l =>
  cases l with
  | nil =>
   have h' : some (⟨n, .done .normal, K, s⟩ : Cf) = some c' := h
   cases h'
   exact stepF_sound (show stepF P T ⟨n, .ops ops [], K', ⟨tm', H⟩⟩ = some ⟨n, .done .normal, K', ⟨tm', H⟩⟩ from rfl) (hd e H tm' K' hx ht hk)
  | cons o l =>
   have hs : strictO s.tm ops o = true ∧ sOp P T n K s ops o l = some c' := by
    unfold stepS at h
    simp only at h
    cases hb : strictO s.tm ops o
    ·rw [hb] at h; cases h
    ·rw [hb] at h; exact ⟨rfl, h⟩
   obtain ⟨hst, h⟩ := hs
   unfold strictO at hst
   simp only [Bool.and_eq_true] at hst
   obtain ⟨hg, hst⟩ := hst
   suffices ∃ c2, sOp P T n K' ⟨tm', H⟩ ops o l = some c2 ∧ Den P T c2 Q by
    obtain ⟨c2, k1, k2⟩ := this
    exact stepF_sound (show stepF P T ⟨n, .ops ops (o :: l), K', ⟨tm', H⟩⟩ = some c2 from k1) k2
   have haw := awanted_rn ht hg
   unfold sOp at h ⊢
   simp only [haw]
   cases hw : awanted ops s.tm o
   ·rw [hw] at h
    simp only [cond_false] at h ⊢
    exact den_put hd h hx ht hk (.of_closed rfl)
   ·rw [hw] at h hst
    simp only [cond_true, Bool.not_true, Bool.false_or, Bool.and_eq_true] at h hst ⊢
    split at h
    ·rename_i v h1 q
     obtain ⟨r', H1, e1, g1, g2, g3, g4⟩ := aop_rn q hx.hn (ht.op hst.1) hst.2
     cases g4 with
     | val hv =>
      simp only [g1]
      exact den_put hd h (hx.next h0 g2 g3) (ht.mono g3.le) (KE.mono g3.le hk) hv
    ·rename_i h1 q
     obtain ⟨r', H1, e1, g1, g2, g3, g4⟩ := aop_rn q hx.hn (ht.op hst.1) hst.2
     cases g4 with
     | skip =>
      simp only [g1]
      exact den_put hd h (hx.next h0 g2 g3) (ht.mono g3.le) (KE.mono g3.le hk) (.of_closed rfl)
    ·rename_i f args h1 q
     obtain ⟨r', H1, e1, g1, g2, g3, g4⟩ := aop_rn q hx.hn (ht.op hst.1) hst.2
     cases g4 with
     | enter hv =>
      rename_i args'
      simp only [g1]
      have hx1 := hx.next h0 g2 g3
      have ht1 := ht.mono g3.le
      have hk1 := KE.mono g3.le hk
      have ho := hO.rn (f := f) hv
      unfold sEnter at h ⊢
      simp only [ho]
      split at h
      ·rename_i v q2
       try simp only [q2]
       exact den_put hd h hx1 ht1 hk1 (.of_closed (hO.dat _ _ _ q2).1)
      ·rename_i q2
       try simp only [q2]
       split at h
       ·rename_i fn q3
        try simp only [q3]
        split at h
        ·rename_i b q4
         try simp only [q4]
         cases h
         refine ⟨_, rfl, ?_⟩
         have hsz : args.size = args'.size := by simpa using hv.1
         rw [← hsz]
         exact hd e1 H1 _ _ hx1 (init_rn hv) ⟨tm', K', rfl, ht1, hk1⟩
        ·cases h
       ·cases h
    ·cases h
 | done x =>
  have hs : presK s.tm K = true ∧ sDone T n s x K = some c' := by
   unfold stepS at h
   simp only at h
   cases hb : presK s.tm K
   ·rw [hb] at h; cases h
   ·rw [hb] at h; exact ⟨rfl, h⟩
  obtain ⟨hpk, h⟩ := hs
  suffices ∃ c2, sDone T n ⟨tm', H⟩ x K' = some c2 ∧ Den P T c2 Q by
   obtain ⟨c2, k1, k2⟩ := this
   exact stepF_sound (show stepF P T ⟨n, .done x, K', ⟨tm', H⟩⟩ = some c2 from k1) k2
  cases K with
  | nil => cases h
  | cons k K =>
   cases k with
   | next b =>
    obtain ⟨L, rfl, hk⟩ := hk
    simp only [sDone] at h ⊢
    cases x <;> (cases h; exact ⟨_, rfl, hd e H tm' L hx ht hk⟩)
   | loop b =>
    obtain ⟨L, rfl, hk⟩ := hk
    simp only [sDone] at h ⊢
    cases x <;> (cases h; exact ⟨_, rfl, hd e H tm' L hx ht hk⟩)
   | inv R =>
    obtain ⟨R', L, rfl, _, hk⟩ := hk
    simp only [sDone] at h ⊢
    cases x <;> first | (cases h; exact ⟨_, rfl, hd e H tm' L hx ht hk⟩) | cases h
   | blk i =>
    obtain ⟨L, rfl, hk⟩ := hk
    simp only [sDone] at h ⊢
    cases x with
    | exit j =>
     simp only at h ⊢
     cases hb : j.beq i
     ·rw [hb] at h; cases h; exact ⟨_, rfl, hd e H tm' L hx ht hk⟩
     ·rw [hb] at h; cases h; exact ⟨_, rfl, hd e H tm' L hx ht hk⟩
    | _ => cases h; exact ⟨_, rfl, hd e H tm' L hx ht hk⟩
   | call m dst tm ops l rs =>
    obtain ⟨tm2, L, rfl, ht2, hk⟩ := hk
    simp only [sDone] at h ⊢
    cases x with
    | exit i => cases h
    | _ =>
     simp only at h ⊢
     split at h
     ·rename_i v q
      obtain ⟨v', g1, g2⟩ := aresults_rn ht hx.hn hpk q
      simp only [g1]
      exact den_put hd h hx ht2 hk g2
     ·cases h
theorem sd_go (k : Nat) (h : SD P T X Q (goS P T k c)) : SD P T X Q c := by
 induction k generalizing c with
 | zero => exact h
 | succ k ih =>
  cases q : stepS P T c with
  | none => simp only [goS, q] at h; exact h
  | some c' => simp only [goS, q] at h; exact stepS_sound h0 hO q (ih h)
end
end Go.Ev
end
section
namespace Go.Ev
open Go
set_option linter.unusedVariables false
set_option linter.unusedSimpArgs false
def hqGo : List (Option Ob) → Nat → Tr Ob → Tr Ob
 | [], _, t => t
 | none :: l, k, t => hqGo l (k + 1) t
 | some o :: l, k, t => hqGo l (k + 1) (t.put k (some o))
def hq (l : List (Option Ob)) : Heap := ⟨hqGo l 0 .lf, l.length⟩
theorem hqGo_get : ∀ (l : List (Option Ob)) (k : Nat) (t : Tr Ob) (b : Nat), (hqGo l k t).get b = if k ≤ b ∧ b < k + l.length then (match l[b - k]? with | some (some o) => some o | _ => t.get b) else t.get b := by
 intro l
 induction l with
 | nil => intro k t b; rw [if_neg (by simp)]; rfl
 | cons x l ih =>
  intro k t b
  have key : (hqGo (x :: l) k t).get b = (hqGo l (k + 1) (match x with | some o => t.put k (some o) | none => t)).get b := by cases x <;> rfl
  rw [key, ih]
  by_cases hb : b = k
  ·subst hb
   rw [if_neg (by omega), if_pos (by simp), Nat.sub_self]
   cases x with
   | none => rfl
   | some o => simp [Tr.get_put]
  ·have hk : (match x with | some o => t.put k (some o) | none => t).get b = t.get b := by
     cases x with
     | none => rfl
     | some o => simp only; rw [Tr.get_put, if_neg hb]
   simp only [hk]
   by_cases hr : k + 1 ≤ b ∧ b < k + 1 + l.length
   ·rw [if_pos hr, if_pos (by simp only [List.length_cons]; omega)]
    rw [show b - k = (b - (k + 1)) + 1 by omega, List.getElem?_cons_succ]
   ·rw [if_neg hr, if_neg (by simp only [List.length_cons]; omega)]
theorem hq_get (l : List (Option Ob)) (b : Nat) : (hq l).get b = (match l[b]? with | some (some o) => some o | _ => none) := by
 show (hqGo l 0 .lf).get b = _
 rw [hqGo_get]
 by_cases h : b < l.length
 ·rw [if_pos ⟨Nat.zero_le _, by omega⟩, Nat.sub_zero]; simp [Tr.get]
 ·rw [if_neg (by omega), List.getElem?_eq_none (by omega)]; simp [Tr.get]
theorem hq_n (l : List (Option Ob)) : (hq l).n = l.length := rfl
theorem hq_wf (l : List (Option Ob)) (b : Nat) (o : Ob) (h : (hq l).get b = some o) : b < (hq l).n := by
 rw [hq_get] at h
 rw [hq_n]
 split at h
 ·rename_i q; exact (List.getElem?_eq_some_iff.1 q).1
 ·cases h
def tmL : List (Nat × Value) → Tr Value
 | [] => .lf
 | (i, v) :: l => (tmL l).put i (some v)
theorem tmL_mem : ∀ (l : List (Nat × Value)) (t : Nat) (v : Value), (tmL l).get t = some v → (t, v) ∈ l := by
 intro l
 induction l with
 | nil => intro t v h; simp [tmL, Tr.get] at h
 | cons p l ih =>
  intro t v h
  obtain ⟨i, u⟩ := p
  simp only [tmL, Tr.get_put] at h
  split at h
  ·rename_i q; cases h; subst q; simp
  ·exact List.mem_cons_of_mem _ (ih t v h)
def rn0 (f : Em) : Value → Option Value
 | .pointer (some ⟨b, off, none⟩) => match f b with | some (some c) => some (.pointer (some ⟨c, off, none⟩)) | _ => none
 | .slice (some ⟨b, off, none⟩) n cap => match f b with
  | some (some c) => some (.slice (some ⟨c, off, none⟩) n cap)
  | some none => bif n.beq 0 && unk.ble cap then some (.slice none 0 0) else none
  | none => none
 | v => bif plain v then some v else none
def rnG (g : Value → Option Value) : List Value → Option (List Value)
 | [] => some []
 | v :: l => match g v, rnG g l with | some w, some r => some (w :: r) | _, _ => none
def rn1 (f : Em) : Value → Option Value
 | .agg cs => match rnG (rn0 f) cs.toList with | some l => some (.agg ⟨l⟩) | none => none
 | .func g a b => match rnG (rn0 f) a.toList, rnG (rn0 f) b.toList with | some l, some r => some (.func g ⟨l⟩ ⟨r⟩) | _, _ => none
 | .iface t v => match rn0 f v with | some w => some (.iface t w) | none => none
 | v => rn0 f v
def rn2 (f : Em) : Value → Option Value
 | .tuple cs => match rnG (rn1 f) cs.toList with | some l => some (.tuple ⟨l⟩) | none => none
 | v => rn1 f v
theorem rnG_sound {f : Em} {g : Value → Option Value} (hg : ∀ v w, g v = some w → RN f v w) : ∀ (l r : List Value), rnG g l = some r → RNs f l r := by
 intro l
 induction l with
 | nil => intro r h; simp only [rnG] at h; cases h; exact RNs.nil
 | cons v l ih =>
  intro r h
  simp only [rnG] at h
  split at h
  ·rename_i w r' h1 h2; cases h; exact RNs.cons (hg _ _ h1) (ih _ h2)
  ·cases h
theorem rn0_sound {f : Em} (v w : Value) (h : rn0 f v = some w) : RN f v w := by
 unfold rn0 at h
 split at h
 ·split at h
  ·rename_i q; cases h; exact .ptr q
  ·cases h
 ·rename_i b off n cap
  split at h
  ·rename_i q; cases h; exact .slice q
  ·rename_i q
   cases hb : (n.beq 0 && unk.ble cap)
   ·rw [hb] at h; cases h
   ·rw [hb] at h; cases h
    simp only [Bool.and_eq_true, Nat.beq_eq] at hb
    obtain ⟨rfl, h2⟩ := hb
    exact .nils q (Nat.le_of_ble_eq_true h2)
  ·cases h
 ·cases hb : plain v
  ·rw [hb] at h; cases h
  ·rw [hb] at h; cases h; exact .same hb
theorem rn1_sound {f : Em} (v w : Value) (h : rn1 f v = some w) : RN f v w := by
 unfold rn1 at h
 split at h
 ·split at h
  ·rename_i l q; cases h; exact RNs.agg (rnG_sound rn0_sound _ _ q)
  ·cases h
 ·split at h
  ·rename_i l r q1 q2
   cases h
   have g1 := RNs.arr (ys := ⟨l⟩) (rnG_sound rn0_sound _ _ q1)
   have g2 := RNs.arr (ys := ⟨r⟩) (rnG_sound rn0_sound _ _ q2)
   exact .func g1.1 g1.2 g2.1 g2.2
  ·cases h
 ·split at h
  ·rename_i w q; cases h; exact .iface (rn0_sound _ _ q)
  ·cases h
 ·exact rn0_sound _ _ h
theorem rn2_sound {f : Em} (v w : Value) (h : rn2 f v = some w) : RN f v w := by
 unfold rn2 at h
 split at h
 ·split at h
  ·rename_i l q; cases h; exact RNs.tuple (rnG_sound rn1_sound _ _ q)
  ·cases h
 ·exact rn1_sound _ _ h
def obRn (f : Em) (o : Ob) : Option Ob := match rnG (rn1 f) o.cells with | some l => some ⟨l, o.elem, o.ro⟩ | none => none
abbrev emOf (l : List (Option Nat)) : Em := fun b => l[b]?
def Bk (f : Em) (h : Heap) (c : Nat) (o : Ob) : Prop := ∃ cs, h.get c = some ⟨cs, o.elem, o.ro⟩ ∧ RNs f o.cells cs
def Blks (f : Em) (h : Heap) : List (Option Ob) → List (Option Nat) → Prop
 | [], [] => True
 | none :: obs, _ :: l => Blks f h obs l
 | some o :: obs, some c :: l => Bk f h c o ∧ Blks f h obs l
 | some o :: obs, none :: l => o.cells = [] ∧ Blks f h obs l
 | _, _ => False
theorem bk_ren {f : Em} {h : Heap} {c : Nat} {o : Ob} (h1 : h.get c = obRn f o) (h2 : (obRn f o).isSome = true) : Bk f h c o := by
 unfold obRn at h1 h2
 split at h1
 ·rename_i l q; exact ⟨l, h1, rnG_sound rn1_sound _ _ q⟩
 ·rename_i q; rw [q] at h2; cases h2
theorem bk_flat {f : Em} {h : Heap} {c : Nat} {cells : List Value} {e : TypeId} {ro : Bool} (cs : List Value) (h1 : h.get c = some ⟨cs, e, ro⟩) (hf : cells.all plain = true) (he : cs = cells) : Bk f h c ⟨cells, e, ro⟩ := by
 subst he; exact ⟨_, h1, RNs.of_plain hf⟩
def subGo (n0 hn : Nat) : Nat → List (Option Nat) → List Nat → Bool
 | _, [], _ => true
 | i, none :: l, seen => n0.ble i && subGo n0 hn (i + 1) l seen
 | i, some c :: l, seen => (bif i.blt n0 then c.beq i else n0.ble c) && c.blt hn && !(seen.any (Nat.beq c ·)) && subGo n0 hn (i + 1) l (c :: seen)
theorem subGo_spec {n0 hn : Nat} : ∀ (l : List (Option Nat)) (i : Nat) (seen : List Nat), subGo n0 hn i l seen = true →
    (∀ (j : Nat), j < l.length → i + j < n0 → l[j]? = some (some (i + j))) ∧ (∀ (j c : Nat), l[j]? = some (some c) → c < hn ∧ (n0 ≤ i + j → n0 ≤ c) ∧ c ∉ seen) ∧
    (∀ (j1 j2 c : Nat), l[j1]? = some (some c) → l[j2]? = some (some c) → j1 = j2) := by
 intro l
 induction l with
 | nil => intro i seen _; exact ⟨fun j h => by simp at h, fun j c h => by simp at h, fun j1 j2 c h => by simp at h⟩
 | cons x l ih =>
  intro i seen h
  cases x with
  | none =>
   simp only [subGo, Bool.and_eq_true] at h
   have hi : n0 ≤ i := Nat.le_of_ble_eq_true h.1
   obtain ⟨a1, a2, a3⟩ := ih (i + 1) seen h.2
   refine ⟨fun j hj hn => by omega, fun j c q => ?_, fun j1 j2 c q1 q2 => ?_⟩
   ·cases j with
    | zero => simp at q
    | succ j => have := a2 j c (by simpa using q); exact ⟨this.1, fun k => this.2.1 (by omega), this.2.2⟩
   ·cases j1 with
    | zero => simp at q1
    | succ j1 => cases j2 with
     | zero => simp at q2
     | succ j2 => rw [a3 j1 j2 c (by simpa using q1) (by simpa using q2)]
  | some c0 =>
   simp only [subGo, Bool.and_eq_true, Bool.not_eq_true'] at h
   obtain ⟨⟨⟨h1, h2⟩, h3⟩, h4⟩ := h
   obtain ⟨a1, a2, a3⟩ := ih (i + 1) _ h4
   have hlt : c0 < hn := Nat.le_of_ble_eq_true h2
   have hns : c0 ∉ seen := fun q => by
    rw [List.any_eq_false] at h3
    exact h3 c0 q (Nat.beq_refl _)
   refine ⟨fun j hj hn => ?_, fun j c q => ?_, fun j1 j2 c q1 q2 => ?_⟩
   ·cases j with
    | zero =>
     have hb : i.blt n0 = true := by rw [blt_dec]; simp; omega
     rw [hb] at h1
     simp only [cond_true, Nat.beq_eq] at h1
     simp [h1]
    | succ j =>
     have := a1 j (by simpa using hj) (by omega)
     simp only [List.getElem?_cons_succ]; rw [this]; congr 2; omega
   ·cases j with
    | zero =>
     simp at q; subst q
     refine ⟨hlt, fun k => ?_, hns⟩
     have hb : i.blt n0 = false := by rw [blt_dec]; simp; omega
     rw [hb] at h1
     exact Nat.le_of_ble_eq_true h1
    | succ j =>
     have := a2 j c (by simpa using q)
     exact ⟨this.1, fun k => this.2.1 (by omega), fun q => this.2.2 (List.mem_cons_of_mem _ q)⟩
   ·cases j1 with
    | zero => cases j2 with
     | zero => rfl
     | succ j2 =>
      simp at q1; subst q1
      exact absurd (List.mem_cons_self ..) (a2 j2 c0 (by simpa using q2)).2.2
    | succ j1 => cases j2 with
     | zero =>
      simp at q2; subst q2
      exact absurd (List.mem_cons_self ..) (a2 j1 c0 (by simpa using q1)).2.2
     | succ j2 => rw [a3 j1 j2 c (by simpa using q1) (by simpa using q2)]
theorem Blks.spec {f : Em} {hh : Heap} : ∀ {obs : List (Option Ob)} {l : List (Option Nat)}, Blks f hh obs l → obs.length = l.length ∧ (∀ (j : Nat) (o : Ob) (c : Nat), obs[j]? = some (some o) → l[j]? = some (some c) → Bk f hh c o) ∧ (∀ (j : Nat) (o : Ob), obs[j]? = some (some o) → l[j]? = some none → o.cells = []) := by
 intro obs
 induction obs with
 | nil => intro l h; cases l with
  | nil => exact ⟨rfl, fun j o c q => (by simp at q), fun j o q => (by simp at q)⟩
  | cons => exact h.elim
 | cons x obs ih =>
  intro l h
  cases l with
  | nil => cases x <;> exact h.elim
  | cons y l =>
   have key : Blks f hh obs l ∧ (∀ (o : Ob) (c : Nat), x = some o → y = some c → Bk f hh c o) ∧ (∀ (o : Ob), x = some o → y = none → o.cells = []) := by
    cases x with
    | none => exact ⟨h, fun o c q => (by cases q), fun o q => (by cases q)⟩
    | some o => cases y with
     | none => exact ⟨h.2, fun o c _ q => (by cases q), fun o' q _ => (by cases q; exact h.1)⟩
     | some c => exact ⟨h.2, fun o' c' q1 q2 => (by cases q1; cases q2; exact h.1), fun o _ q => (by cases q)⟩
   obtain ⟨k1, k2, k3⟩ := key
   obtain ⟨a1, a2, a3⟩ := ih k1
   refine ⟨by simp [a1], fun j o c q1 q2 => ?_, fun j o q1 q2 => ?_⟩
   ·cases j with
    | zero => simp at q1 q2; exact k2 o c q1 q2
    | succ j => exact a2 j o c (by simpa using q1) (by simpa using q2)
   ·cases j with
    | zero => simp at q1 q2; exact k3 o q1 q2
    | succ j => exact a3 j o (by simpa using q1) (by simpa using q2)
theorem hq_some {l : List (Option Ob)} {b : Nat} {o : Ob} (h : (hq l).get b = some o) : l[b]? = some (some o) := by
 rw [hq_get] at h
 split at h
 ·rename_i q; rw [q]; cases h; rfl
 ·cases h
theorem hn_of {l : List (Option Nat)} {obs : List (Option Ob)} {h : Heap} (n0 : Nat) (hl : subGo n0 h.n 0 l [] = true) (hb : Blks (emOf l) h obs l) : HN (emOf l) (hq obs) h := by
 obtain ⟨a1, a2, a3⟩ := hb.spec
 obtain ⟨b1, b2, b3⟩ := subGo_spec _ _ _ hl
 refine ⟨hq_wf obs, fun b x q => ?_, fun b c q => (b2 b c q).1, fun b c o q1 q2 => a2 b o c (hq_some q1) q2, fun b o q1 q2 => a3 b o (hq_some q1) q2, fun x y c q1 q2 _ _ => b3 x y c q1 q2⟩
 rw [hq_n, a1]
 exact (List.getElem?_eq_some_iff.1 q).1
def subG (n0 : Nat) (h : Heap) (all : List (Option Ob)) : Nat → List (Option Ob) → List (Option Nat) → List Nat → Bool
 | _, _, [], _ => true
 | _, [], _ :: _, _ => false
 | i, _ :: obs, none :: l, seen => n0.ble i && subG n0 h all (i + 1) obs l seen
 | i, x :: obs, some c :: l, seen => (bif i.blt n0 then c.beq i else (n0.ble c || ((all.getD c none).isNone && (h.get c).isSome))) && c.blt h.n && (!x.isSome || !(seen.any (Nat.beq c ·))) && subG n0 h all (i + 1) obs l (bif x.isSome then c :: seen else seen)
theorem subG_spec {n0 : Nat} {h : Heap} {all : List (Option Ob)} : ∀ (l : List (Option Nat)) (obs : List (Option Ob)) (i : Nat) (seen : List Nat), subG n0 h all i obs l seen = true →
    (∀ (j : Nat), j < l.length → i + j < n0 → l[j]? = some (some (i + j))) ∧ (∀ (j c : Nat), l[j]? = some (some c) → c < h.n ∧ (n0 ≤ i + j → n0 ≤ c ∨ (all.getD c none = none ∧ (h.get c).isSome)) ∧ ((∃ o, obs[j]? = some (some o)) → c ∉ seen)) ∧
    (∀ (j1 j2 c : Nat), (∃ o, obs[j1]? = some (some o)) → (∃ o, obs[j2]? = some (some o)) → l[j1]? = some (some c) → l[j2]? = some (some c) → j1 = j2) := by
 intro l
 induction l with
 | nil => intro obs i seen _; exact ⟨fun j h => by simp at h, fun j c h => by simp at h, fun j1 j2 c _ _ h => by simp at h⟩
 | cons x l ih =>
  intro obs i seen h
  cases obs with
  | nil => cases h
  | cons y obs =>
   cases x with
   | none =>
    simp only [subG, Bool.and_eq_true] at h
    have hi : n0 ≤ i := Nat.le_of_ble_eq_true h.1
    obtain ⟨a1, a2, a3⟩ := ih obs (i + 1) seen h.2
    refine ⟨fun j hj hn => by omega, fun j c q => ?_, fun j1 j2 c p1 p2 q1 q2 => ?_⟩
    ·cases j with
     | zero => simp at q
     | succ j => have := a2 j c (by simpa using q); exact ⟨this.1, fun k => this.2.1 (by omega), fun p => this.2.2 (by simpa using p)⟩
    ·cases j1 with
     | zero => simp at q1
     | succ j1 => cases j2 with
      | zero => simp at q2
      | succ j2 => rw [a3 j1 j2 c (by simpa using p1) (by simpa using p2) (by simpa using q1) (by simpa using q2)]
   | some c0 =>
    simp only [subG, Bool.and_eq_true, Bool.or_eq_true, Bool.not_eq_true'] at h
    obtain ⟨⟨⟨h1, h2⟩, h3⟩, h4⟩ := h
    obtain ⟨a1, a2, a3⟩ := ih obs (i + 1) _ h4
    have hlt : c0 < _ := Nat.le_of_ble_eq_true h2
    have hns : (∃ o, y = some o) → c0 ∉ seen := fun ⟨o, ho⟩ q => by
     subst ho
     rcases h3 with h3 | h3
     ·cases h3
     ·rw [List.any_eq_false] at h3
      exact h3 c0 q (Nat.beq_refl _)
    have sub : ∀ c, c ∈ seen → c ∈ (bif y.isSome then c0 :: seen else seen) := fun c hc => by
     cases y.isSome
     ·exact hc
     ·exact List.mem_cons_of_mem _ hc
    refine ⟨fun j hj hn => ?_, fun j c q => ?_, fun j1 j2 c p1 p2 q1 q2 => ?_⟩
    ·cases j with
     | zero =>
      have hb : i.blt n0 = true := by rw [blt_dec]; simp; omega
      rw [hb] at h1
      simp only [cond_true, Nat.beq_eq] at h1
      simp [h1]
     | succ j =>
      have := a1 j (by simpa using hj) (by omega)
      simp only [List.getElem?_cons_succ]; rw [this]; congr 2; omega
    ·cases j with
     | zero =>
      simp at q; subst q
      refine ⟨hlt, fun k => ?_, fun p => hns (by simpa using p)⟩
      have hb : i.blt n0 = false := by rw [blt_dec]; simp; omega
      rw [hb] at h1
      simp only [cond_false, Bool.or_eq_true, Bool.and_eq_true, Option.isNone_iff_eq_none] at h1
      exact h1.imp Nat.le_of_ble_eq_true id
     | succ j =>
      have := a2 j c (by simpa using q)
      exact ⟨this.1, fun k => this.2.1 (by omega), fun p q => this.2.2 (by simpa using p) (sub _ q)⟩
    ·cases j1 with
     | zero => cases j2 with
      | zero => rfl
      | succ j2 =>
       simp at q1; subst q1
       obtain ⟨o, ho⟩ := p1
       simp at ho; subst ho
       exact absurd (List.mem_cons_self ..) ((a2 j2 c0 (by simpa using q2)).2.2 (by simpa using p2))
     | succ j1 => cases j2 with
      | zero =>
       simp at q2; subst q2
       obtain ⟨o, ho⟩ := p2
       simp at ho; subst ho
       exact absurd (List.mem_cons_self ..) ((a2 j1 c0 (by simpa using q1)).2.2 (by simpa using p1))
      | succ j2 => rw [a3 j1 j2 c (by simpa using p1) (by simpa using p2) (by simpa using q1) (by simpa using q2)]
theorem sub_of {l : List (Option Nat)} {obs : List (Option Ob)} {h : Heap} {n0 : Nat} (hl : subG n0 h obs 0 obs l [] = true) (hle : n0.ble l.length = true) (hb : Blks (emOf l) h obs l) : Sub n0 (emOf l) (hq obs) h := by
 obtain ⟨b1, b2, b3⟩ := subG_spec _ _ _ _ hl
 have hle := Nat.le_of_ble_eq_true hle
 obtain ⟨a1, a2, a3⟩ := hb.spec
 have al : ∀ b, ((hq obs).get b).isSome → ∃ o, obs[b]? = some (some o) := fun b q => by
  obtain ⟨o, ho⟩ := Option.isSome_iff_exists.1 q
  exact ⟨o, hq_some ho⟩
 have hn : HN (emOf l) (hq obs) h := by
  refine ⟨hq_wf obs, fun b x q => ?_, fun b c q => (b2 b c q).1, fun b c o q1 q2 => a2 b o c (hq_some q1) q2, fun b o q1 q2 => a3 b o (hq_some q1) q2, fun x y c q1 q2 l1 l2 => b3 x y c (al _ l1) (al _ l2) q1 q2⟩
  rw [hq_n, a1]
  exact (List.getElem?_eq_some_iff.1 q).1
 refine ⟨hn, fun b hb' => ?_, fun b c hb' q => ((b2 b c q).2.1 (by omega)).imp id fun ⟨g1, g2⟩ => ⟨?_, g2⟩, ?_⟩
 ·have := b1 b (by omega) (by omega)
  rw [Nat.zero_add] at this; exact this
 ·rw [hq_n, hb.spec.1]; exact hle
 ·rw [hq_get]
  rw [List.getD_eq_getElem?_getD] at g1
  cases g3 : obs[c]? with
  | none => rfl
  | some x => rw [g3] at g1; simp at g1; subst g1; rfl
theorem te_of {f : Em} {L : List (Nat × Value)} {tm : Tr Value} (h1 : L.map (fun p => rn2 f p.2) = L.map (fun p => tm.get p.1)) (h2 : L.all (fun p => (rn2 f p.2).isSome) = true) : TE f (tmL L) tm := fun t v q => by
 have hm := tmL_mem _ _ _ q
 obtain ⟨j, hj⟩ := List.mem_iff_getElem?.1 hm
 have e1 : rn2 f v = tm.get t := by
  have := congrArg (fun r => r[j]?) h1
  simpa [hj] using this
 obtain ⟨w, hw⟩ := Option.isSome_iff_exists.1 (List.all_eq_true.1 h2 _ hm)
 exact ⟨w, by rw [← e1]; exact hw, rn2_sound _ _ hw⟩
theorem val_enter {u : Option Value} {H H1 : Heap} {f : FuncId} {a : Array Value} (h : val u H = some (.enter f a, H1)) : False := by unfold val at h; split at h <;> cases h
theorem val2_enter {u : Option (Value × Heap)} {H1 : Heap} {f : FuncId} {a : Array Value} (h : val2 u = some (.enter f a, H1)) : False := by unfold val2 at h; split at h <;> cases h
theorem skp_enter {u : Option Heap} {H1 : Heap} {f : FuncId} {a : Array Value} (h : skp u = some (.enter f a, H1)) : False := by unfold skp at h; split at h <;> cases h
theorem enter_call {P : Program} {T : Tab} {tm : Tr Value} {o : Oper} {cl : Call} {H H1 : Heap} {f : FuncId} {a : Array Value} (h : acall P T tm o cl H = some (.enter f a, H1)) : H1 = H := by
 unfold acall at h
 split at h
 ·split at h
  ·split at h
   ·cases h; rfl
   ·cases h
  ·cases h
 ·cases h
 ·split at h
  all_goals first | exact (val_enter h).elim | exact (val2_enter h).elim | (cases h; done) | (split at h <;> (cases h; done))
theorem enter_heap {P : Program} {T : Tab} {tm : Tr Value} {o : Oper} {H H1 : Heap} {f : FuncId} {a : Array Value} (h : aop P T tm o H = some (.enter f a, H1)) : H1 = H := by
 unfold aop at h
 split at h
 all_goals first
  | exact enter_call h
  | exact (val_enter h).elim
  | (split at h <;> first | exact (val_enter h).elim | exact (val2_enter h).elim | exact (skp_enter h).elim | (cases h; done) | (split at h <;> first | exact (val_enter h).elim | (cases h; done)) | (rename_i z _; cases hc : closed z <;> rw [hc] at h <;> cases h))
  | (cases h; done)
section
variable {P : Program} {T : Tab} {X : Cx} {Q : Xt → St → Prop} {c : Cf}
structure SubS (n0 : Nat) (f : Em) (k s : St) : Prop where
 mem : Sub n0 f k.H s.H
 te : TE f k.tm s.tm
theorem sd_see (t : Nat) (v : Value) (h : c.s.tm.get t = some v) (hk : SD P T X Q (c.see t v)) : SD P T X Q c := by
 obtain ⟨n, p, K, s⟩ := c
 have := st_see t v h
 unfold Cf.see at hk
 rw [← this] at hk
 exact hk
def strictC (c : Cf) : Bool := guardP c.s.tm (opsC c) (opC c) && ((opC c).op.operands.toList.all (pres c.s.tm) && okB c.s.tm (opC c).op)
theorem big_ok {t : Nat} {e : Em} {tm' : Tr Value} {H : Heap} {K' : List Kf} (ho : okOp c t = true) (hs : strictC c = true) (ht : TE e c.s.tm tm') : okOp ⟨c.n, c.p, K', ⟨tm', H⟩⟩ t = true := by
 unfold strictC at hs
 rw [Bool.and_eq_true] at hs
 have haw := awanted_rn ht hs.1
 unfold okOp at ho ⊢
 rw [show awanted (opsC ⟨c.n, c.p, K', ⟨tm', H⟩⟩) tm' (opC ⟨c.n, c.p, K', ⟨tm', H⟩⟩) = awanted (opsC c) c.s.tm (opC c) from haw]
 exact ho
theorem big_no {e : Em} {tm' : Tr Value} {H : Heap} {K' : List Kf} (ho : okNo c = true) (hs : strictC c = true) (ht : TE e c.s.tm tm') : okNo ⟨c.n, c.p, K', ⟨tm', H⟩⟩ = true := by
 unfold strictC at hs
 rw [Bool.and_eq_true] at hs
 have haw := awanted_rn ht hs.1
 unfold okNo at ho ⊢
 rw [show awanted (opsC ⟨c.n, c.p, K', ⟨tm', H⟩⟩) tm' (opC ⟨c.n, c.p, K', ⟨tm', H⟩⟩) = awanted (opsC c) c.s.tm (opC c) from haw]
 exact ho
theorem sd_val (t : Nat) (v : Value) (h1 : Heap) (ho : okOp c t = true) (hs : strictC c = true) (ha : aop P T c.s.tm (opC c) c.s.H = some (.val v, h1)) (hk : SD P T X Q (c.put t v h1)) : SD P T X Q c := by
 intro e H tm' K' hx ht hK
 have hs' := hs
 unfold strictC at hs'
 simp only [Bool.and_eq_true] at hs'
 obtain ⟨r', H1, e1, g1, g2, g3, g4⟩ := aop_rn ha hx.hn (ht.op hs'.2.1) hs'.2.2
 cases g4 with
 | val hv => exact cf_val t _ H1 (big_ok ho hs ht) g1 (hk e1 H1 _ K' (hx.next X.ok g2 g3) ((ht.mono g3.le).put t hv) (KE.mono g3.le hK))
theorem sd_skip (h1 : Heap) (ho : okNo c = true) (hs : strictC c = true) (ha : aop P T c.s.tm (opC c) c.s.H = some (.skip, h1)) (hk : SD P T X Q (c.skp h1)) : SD P T X Q c := by
 intro e H tm' K' hx ht hK
 have hs' := hs
 unfold strictC at hs'
 simp only [Bool.and_eq_true] at hs'
 obtain ⟨r', H1, e1, g1, g2, g3, g4⟩ := aop_rn ha hx.hn (ht.op hs'.2.1) hs'.2.2
 cases g4 with
 | skip => exact cf_skip H1 (big_no ho hs ht) g1 (hk e1 H1 _ K' (hx.next X.ok g2 g3) (ht.mono g3.le) (KE.mono g3.le hK))
theorem sd_ask [OrcDat T] (t : Nat) (v : Value) (f : FuncId) (args : Array Value) (ho : okOp c t = true) (hs : strictC c = true) (ha : aop P T c.s.tm (opC c) c.s.H = some (.enter f args, c.s.H)) (hv : T.orc f args.toList = some v) (hk : SD P T X Q (c.put t v c.s.H)) : SD P T X Q c := by
 intro e H tm' K' hx ht hK
 have hs' := hs
 unfold strictC at hs'
 simp only [Bool.and_eq_true] at hs'
 obtain ⟨r', H1, e1, g1, g2, g3, g4⟩ := aop_rn ha hx.hn (ht.op hs'.2.1) hs'.2.2
 cases g4 with
 | enter hr =>
  rename_i args'
  have hv' : T.orc f args'.toList = some v := by rw [OrcDat.rn inferInstance hr]; exact hv
  have hcl := (OrcDat.dat (T := T) _ _ _ hv).1
  have := enter_heap g1
  subst this
  refine cf_call t f args' H1 (big_ok ho hs ht) g1 rfl (acall_orc hv' (R := fun v' H' => v' = v ∧ H' = H1) ⟨rfl, rfl⟩) fun v' H' hh => ?_
  rw [hh.1, hh.2]
  exact hk e1 H1 _ K' (hx.next X.ok g2 g3) ((ht.mono g3.le).put t (.of_closed hcl)) (KE.mono g3.le hK)
theorem SCall.mono {f : FuncId} {args : Array Value} {h : Heap} {R R' : Value → Heap → Prop} (hc : SCall P T f args h R) (hr : ∀ v h, R v h → R' v h) : SCall P T f args h R' := fun e a H hn ha =>
 (hc e a H hn ha).mono fun v H1 ⟨w, h1, e1, k1, k2⟩ => ⟨w, h1, e1, hr _ _ k1, k2⟩
def Em.ext (f : Em) (kn hn : Nat) : Em := fun b => bif b.blt kn then f b else some (some (hn + (b - kn)))
def CovAt (f : Em) (k k1 h : Heap) (c : Nat) (o1 : Ob) : Prop :=
 (∃ b o, b < k1.n ∧ f.ext k.n h.n b = some (some c) ∧ k1.get b = some o ∧ o1.elem = o.elem ∧ o1.ro = o.ro ∧ RNs (f.ext k.n h.n) o.cells o1.cells) ∨
 (c < h.n ∧ (∀ b, f b = some (some c) → k.get b = none) ∧ h.get c = some o1)
structure Glue (f : Em) (k k1 h h1 : Heap) : Prop where
 n : h1.n = h.n + (k1.n - k.n)
 le : k.n ≤ k1.n
 wf : ∀ c o, h1.get c = some o → c < h1.n
 cov : ∀ c o, h1.get c = some o → CovAt f k k1 h c o
theorem Em.ext_lt {f : Em} {kn hn b : Nat} (h : b < kn) : f.ext kn hn b = f b := by
 have : b.blt kn = true := by rw [blt_dec]; simp; omega
 simp only [Em.ext, this, cond_true]
theorem Em.ext_ge {f : Em} {kn hn b : Nat} (h : kn ≤ b) : f.ext kn hn b = some (some (hn + (b - kn))) := by
 have : b.blt kn = false := by rw [blt_dec]; simp; omega
 simp only [Em.ext, this, cond_false]
theorem Glue.run {f e g : Em} {k k1 h h1 H H1 : Heap} (gl : Glue f k k1 h h1) (hf : HN f k h) (he : HN e h H) (hg : HN g k1 H1) (hx : Ex (f.comp e) g k H k1 H1) :
    ∃ e1, HN e1 h1 H1 ∧ Ex e e1 h H h1 H1 ∧ ∀ v w v', RN (f.ext k.n h.n) v w → RN g v v' → RN e1 w v' := by
 have hc := hf.comp he
 obtain ⟨e1, he1⟩ : ∃ e1 : Em, e1 = fun c => bif c.blt h.n then e c else g (k.n + (c - h.n)) := ⟨_, rfl⟩
 have lo : ∀ c, c < h.n → e1 c = e c := fun c q => by
  have : c.blt h.n = true := by rw [blt_dec]; simp; omega
  rw [he1]; simp only [this, cond_true]
 have hi : ∀ c, h.n ≤ c → e1 c = g (k.n + (c - h.n)) := fun c q => by
  have : c.blt h.n = false := by rw [blt_dec]; simp; omega
  rw [he1]; simp only [this, cond_false]
 have gnone : ∀ b, b < k.n → (f.comp e) b = none → g b = none := fun b q1 q2 => by
  cases q3 : g b with
  | none => rfl
  | some x =>
   rcases hx.new _ _ q3 with q4 | ⟨q4, _⟩
   ·rw [q2] at q4; cases q4
   ·omega
 have hfe : ∀ b x, f.ext k.n h.n b = some x → g b = match x with | none => some none | some c => e1 c := by
  intro b x q
  by_cases hb : b < k.n
  ·rw [Em.ext_lt hb] at q
   cases x with
   | none => exact hx.le _ _ (by simp only [Em.comp, q])
   | some c =>
    have hcl := hf.rng _ _ q
    simp only
    rw [lo c hcl]
    cases q2 : e c with
    | none => exact gnone b hb (by simp only [Em.comp, q, q2])
    | some y => exact hx.le _ _ (by simp only [Em.comp, q, q2])
  ·rw [Em.ext_ge (by omega)] at q
   cases q
   simp only
   rw [hi _ (by omega)]
   congr 1; omega
 have kl : ∀ b, b < k.n → (k1.get b).isSome → (k.get b).isSome := fun b q1 q2 => by
  cases q3 : k.get b with
  | some _ => rfl
  | none => rw [hx.lv b q1 q3] at q2; cases q2
 have liveh : ∀ b c, f b = some (some c) → (k.get b).isSome → (h.get c).isSome := fun b c q1 q2 => by
  obtain ⟨o, ho⟩ := Option.isSome_iff_exists.1 q2
  obtain ⟨l, g1, _⟩ := hf.blk b c o ho q1
  rw [g1]; rfl
 have hl : ∀ c, c < h.n → (h1.get c).isSome → (h.get c).isSome := fun c q1 q2 => by
  obtain ⟨o, ho⟩ := Option.isSome_iff_exists.1 q2
  rcases gl.cov c o ho with ⟨b, o', p1, p2, p3, _⟩ | ⟨_, _, p3⟩
  ·by_cases hb : b < k.n
   ·rw [Em.ext_lt hb] at p2
    exact liveh b c p2 (kl b hb (by rw [p3]; rfl))
   ·rw [Em.ext_ge (by omega)] at p2; cases p2; omega
  ·rw [p3]; rfl
 have freed : ∀ b0 c, f b0 = some (some c) → (k.get b0).isSome → k1.get b0 = none → h1.get c = none := fun b0 c g1 g2 g3 => by
  cases q : h1.get c with
  | none => rfl
  | some o =>
   exfalso
   rcases gl.cov c o q with ⟨b, o', p1, p2, p3, _⟩ | ⟨_, p2, _⟩
   ·by_cases hb : b < k.n
    ·rw [Em.ext_lt hb] at p2
     have := hf.inj b b0 c p2 g1 (kl b hb (by rw [p3]; rfl)) g2
     subst this
     rw [p3] at g3; cases g3
    ·rw [Em.ext_ge (by omega)] at p2
     have := hf.rng _ _ g1
     cases p2; omega
   ·rw [p2 b0 g1] at g2; cases g2
 have hle : e.le e1 := fun c x q => by rw [lo c (he.dom _ _ q)]; exact q
 refine ⟨e1, ⟨gl.wf, fun c x q => ?_, fun c d q => ?_, fun c d o1 q1 q2 => ?_, fun c o1 q1 q2 => ?_, fun c1 c2 d q1 q2 l1 l2 => ?_⟩, ⟨hle, fun c x q => ?_, by have := gl.n; omega, hx.Hn, fun d hd q => ?_, fun c hc q => ?_⟩, fun v w v' q1 q2 => q1.factor hfe q2⟩
 ·by_cases hc : c < h.n
  ·have := gl.n; omega
  ·rw [hi c (by omega)] at q
   have := hg.dom _ _ q
   have := gl.n; have := gl.le; omega
 ·by_cases hc : c < h.n
  ·rw [lo c hc] at q; exact Nat.lt_of_lt_of_le (he.rng _ _ q) hx.Hn
  ·rw [hi c (by omega)] at q; exact hg.rng _ _ q
 ·rcases gl.cov c o1 q1 with ⟨b, o, p1, p2, p3, p4, p5, p6⟩ | ⟨p1, p2, p3⟩
  ·have hgb : g b = some (some d) := (hfe b _ p2).trans q2
   obtain ⟨cs, k2, k3⟩ := hg.blk b d o p3 hgb
   exact ⟨cs, by rw [k2, p4, p5], p6.factor hfe k3⟩
  ·rw [lo c p1] at q2
   obtain ⟨cs, k2, k3⟩ := he.blk c d o1 p3 q2
   refine ⟨cs, ?_, k3.mono hle⟩
   rw [hx.keep d (he.rng _ _ q2) fun b q => ?_]
   ·exact k2
   ·rcases comp_some q with ⟨_, q⟩ | ⟨c2, r1, r2⟩
    ·cases q
    ·cases q3 : k.get b with
     | none => rfl
     | some o' =>
      have := he.inj c2 c d r2 q2 (liveh b c2 r1 (by rw [q3]; rfl)) (by rw [p3]; rfl)
      subst this
      rw [p2 b r1] at q3; cases q3
 ·rcases gl.cov c o1 q1 with ⟨b, o, p1, p2, p3, p4, p5, p6⟩ | ⟨p1, p2, p3⟩
  ·have hgb : g b = some none := (hfe b _ p2).trans q2
   have := hg.gh b o p3 hgb
   exact List.eq_nil_of_length_eq_zero (by rw [← p6.1, this]; rfl)
  ·rw [lo c p1] at q2; exact he.gh c o1 p3 q2
 ·have hkl : ∀ c, h.n ≤ c → (h1.get c).isSome → (k1.get (k.n + (c - h.n))).isSome := fun c q1 q2 => by
    obtain ⟨o, ho⟩ := Option.isSome_iff_exists.1 q2
    rcases gl.cov c o ho with ⟨b, o', p1, p2, p3, _⟩ | ⟨p1, _⟩
    ·by_cases hb : b < k.n
     ·rw [Em.ext_lt hb] at p2
      have := hf.rng _ _ p2; omega
     ·rw [Em.ext_ge (by omega)] at p2; cases p2
      rw [show k.n + (h.n + (b - k.n) - h.n) = b by omega, p3]; rfl
    ·omega
  have cross : ∀ c1 c2, c1 < h.n → h.n ≤ c2 → (h1.get c1).isSome → e1 c1 = some (some d) → e1 c2 = some (some d) → False := fun c1 c2 a1 a2 l1 b1 b2 => by
   rw [lo c1 a1] at b1; rw [hi c2 a2] at b2
   have := he.rng _ _ b1
   rcases hx.new _ _ b2 with q | ⟨_, q⟩
   ·have := hc.dom _ _ q; omega
   ·rcases q d rfl with q | ⟨b0, g1, g2, g3⟩
    ·omega
    ·rcases comp_some g1 with ⟨_, g1⟩ | ⟨c', g4, g5⟩
     ·cases g1
     ·have := he.inj c' c1 d g5 b1 (liveh b0 c' g4 g2) (hl c1 a1 l1)
      subst this
      rw [freed b0 c' g4 g2 g3] at l1; cases l1
  by_cases a1 : c1 < h.n
  ·by_cases a2 : c2 < h.n
   ·rw [lo c1 a1] at q1; rw [lo c2 a2] at q2
    exact he.inj c1 c2 d q1 q2 (hl c1 a1 l1) (hl c2 a2 l2)
   ·exact (cross c1 c2 a1 (by omega) l1 q1 q2).elim
  ·by_cases a2 : c2 < h.n
   ·exact (cross c2 c1 a2 (by omega) l2 q2 q1).elim
   ·rw [hi c1 (by omega)] at q1; rw [hi c2 (by omega)] at q2
    have := hg.inj _ _ d q1 q2 (hkl c1 (by omega) l1) (hkl c2 (by omega) l2)
    omega
 ·by_cases a : c < h.n
  ·rw [lo c a] at q; exact .inl q
  ·rw [hi c (by omega)] at q
   rcases hx.new _ _ q with q | ⟨_, q⟩
   ·have := hc.dom _ _ q; omega
   ·refine .inr ⟨by omega, fun d hd => (q d hd).imp id fun ⟨b0, g1, g2, g3⟩ => ?_⟩
    rcases comp_some g1 with ⟨_, g1⟩ | ⟨c', g4, g5⟩
    ·cases g1
    ·exact ⟨c', g5, liveh b0 c' g4 g2, freed b0 c' g4 g2 g3⟩
 ·refine hx.keep d hd fun b q2 => ?_
  rcases comp_some q2 with ⟨_, q2⟩ | ⟨c2, r1, r2⟩
  ·cases q2
  ·cases q3 : k.get b with
   | none => rfl
   | some o' =>
    have h1 := q c2 r2
    have h2 := liveh b c2 r1 (by rw [q3]; rfl)
    rw [h1] at h2; cases h2
 ·cases q3 : h1.get c with
  | none => rfl
  | some o =>
   have := hl c hc (by rw [q3]; rfl)
   rw [q] at this; cases this
theorem Glue.refl {f : Em} {k h : Heap} (hf : HN f k h) (hwf : ∀ c o, h.get c = some o → c < h.n) : Glue f k k h h where
 n := by omega
 le := Nat.le_refl _
 wf := hwf
 cov := fun c o q => by
  by_cases hb : ∃ b, f b = some (some c) ∧ (k.get b).isSome
  ·obtain ⟨b, h1, h2⟩ := hb
   obtain ⟨o', ho'⟩ := Option.isSome_iff_exists.1 h2
   obtain ⟨cs, g1, g2⟩ := hf.blk b c o' ho' h1
   rw [q] at g1
   have hbn := hf.dom _ _ h1
   have e1 : o = ⟨cs, o'.elem, o'.ro⟩ := Option.some.inj g1
   refine .inl ⟨b, o', hbn, by rw [Em.ext_lt hbn]; exact h1, ho', by rw [e1], by rw [e1], ?_⟩
   rw [e1]
   refine ⟨g2.1, fun i x hx => ?_⟩
   obtain ⟨y, hy, hv⟩ := g2.2 i x hx
   exact ⟨y, hy, hv.mono fun b' x' q' => by rw [Em.ext_lt (hf.dom _ _ q')]; exact q'⟩
  ·exact .inr ⟨hwf c o q, fun b h1 => by
     cases h2 : k.get b with
     | none => rfl
     | some o' => exact absurd ⟨b, h1, by rw [h2]; rfl⟩ hb, q⟩
theorem sd_call (t : Nat) (f : FuncId) (args : Array Value) {R : Value → Heap → Prop} {args0 : Array Value} {k : Heap} (hc : SCall P T f args0 k R) (g : Em) (ho : okOp c t = true) (hs : strictC c = true)
    (ha : aop P T c.s.tm (opC c) c.s.H = some (.enter f args, c.s.H)) (hg : HN g k c.s.H) (hr : RNs g args0.toList args.toList)
    (hk : ∀ v k1, R v k1 → ∃ w h1, Glue g k k1 c.s.H h1 ∧ RN (g.ext k.n c.s.H.n) v w ∧ SD P T X Q (c.put t w h1)) : SD P T X Q c := by
 intro e H tm' K' hx ht hK
 have hs' := hs
 unfold strictC at hs'
 simp only [Bool.and_eq_true] at hs'
 obtain ⟨r', H1, e1, g1, g2, g3, g4⟩ := aop_rn ha hx.hn (ht.op hs'.2.1) hs'.2.2
 cases g4 with
 | enter hr2 =>
  rename_i args'
  have := enter_heap g1
  subst this
  refine cf_call t f args' H1 (big_ok ho hs ht) g1 rfl (hc (g.comp e1) args' H1 (hg.comp g2) (hr.comp hr2)) fun v' H2 hh => ?_
  obtain ⟨v, k1, e2, r1, r2, r3, r4⟩ := hh
  obtain ⟨w, h1, gl, rw_, hd⟩ := hk v k1 r1
  obtain ⟨e3, s1, s2, s3⟩ := gl.run hg g2 r2 r3
  have hle := s2.le
  exact hd e3 H2 _ K' ((hx.next X.ok g2 g3).next X.ok s1 s2) (((ht.mono g3.le).mono hle).put t (s3 _ _ _ rw_ r4)) (KE.mono hle (KE.mono g3.le hK))
end
end Go.Ev
end
section
namespace Go.Ev
open Go
set_option linter.unusedVariables false
set_option linter.unusedSimpArgs false
section
variable {P : Program} {T : Tab} {X : Cx} {Q : Xt → St → Prop} {c : Cf}
def Covs (f : Em) (k k1 h : Heap) : Nat → List (Option Ob) → Prop
 | _, [] => True
 | c, none :: l => Covs f k k1 h (c + 1) l
 | c, some o :: l => CovAt f k k1 h c o ∧ Covs f k k1 h (c + 1) l
theorem Covs.spec {f : Em} {k k1 h : Heap} : ∀ (l : List (Option Ob)) (c : Nat), Covs f k k1 h c l → ∀ (j : Nat) (o : Ob), l[j]? = some (some o) → CovAt f k k1 h (c + j) o := by
 intro l
 induction l with
 | nil => intro c _ j o q; simp at q
 | cons x l ih =>
  intro c hc j o q
  cases x with
  | none => cases j with
   | zero => simp at q
   | succ j => rw [show c + (j + 1) = c + 1 + j by omega]; exact ih (c + 1) hc j o (by simpa using q)
  | some o1 => cases j with
   | zero => simp at q; subst q; exact hc.1
   | succ j => rw [show c + (j + 1) = c + 1 + j by omega]; exact ih (c + 1) hc.2 j o (by simpa using q)
theorem glue_of {f : Em} {k k1 h : Heap} {l : List (Option Ob)} (hn : l.length.beq (h.n + (k1.n - k.n)) = true) (hl : k.n.ble k1.n = true) (hc : Covs f k k1 h 0 l) : Glue f k k1 h (hq l) where
 n := Nat.eq_of_beq_eq_true hn
 le := Nat.le_of_ble_eq_true hl
 wf := hq_wf l
 cov := fun c o q => by
  have := hc.spec l 0 c o (hq_some q)
  rwa [Nat.zero_add] at this
def isNm (f : Em) (b c : Nat) : Bool := match f b with | some (some d) => d.beq c | _ => false
theorem isNm_spec {f : Em} {b c : Nat} (h : isNm f b c = true) : f b = some (some c) := by
 unfold isNm at h
 split at h
 ·rename_i d q; rw [q, Nat.eq_of_beq_eq_true h]
 ·cases h
theorem cov_old {l : List (Option Nat)} {k k1 h : Heap} {c : Nat} {o : Ob} (h1 : (c.blt h.n && l.all (fun x => match x with | some d => !d.beq c | none => true)) = true) (h2 : h.get c = some o) : CovAt (emOf l) k k1 h c o := by
 rw [Bool.and_eq_true] at h1
 refine .inr ⟨Nat.le_of_ble_eq_true h1.1, fun b q => ?_, h2⟩
 have := List.all_eq_true.1 h1.2 _ (List.mem_of_getElem? q)
 simp only [Nat.beq_refl, Bool.not_true] at this
 cases this
theorem cov_same {f : Em} {k k1 h : Heap} {c : Nat} {o : Ob} (b : Nat) (hf : HN f k h) (hle : k.n.ble k1.n = true) (h0 : isNm f b c = true) (h1 : k1.get b = k.get b) (hs : (k.get b).isSome = true) (h2 : h.get c = some o) : CovAt f k k1 h c o := by
 have h0 := isNm_spec h0
 obtain ⟨o', ho'⟩ := Option.isSome_iff_exists.1 hs
 obtain ⟨cs, g1, g2⟩ := hf.blk b c o' ho' h0
 rw [h2] at g1
 have hbn := hf.dom _ _ h0
 have e1 : o = ⟨cs, o'.elem, o'.ro⟩ := Option.some.inj g1
 refine .inl ⟨b, o', Nat.lt_of_lt_of_le hbn (Nat.le_of_ble_eq_true hle), by rw [Em.ext_lt hbn]; exact h0, by rw [h1, ho'], by rw [e1], by rw [e1], ?_⟩
 rw [e1]
 refine ⟨g2.1, fun i x hx => ?_⟩
 obtain ⟨y, hy, hv⟩ := g2.2 i x hx
 exact ⟨y, hy, hv.mono fun b' x' q' => by rw [Em.ext_lt (hf.dom _ _ q')]; exact q'⟩
theorem cov_flat {f : Em} {k k1 h : Heap} {c : Nat} {cells : List Value} {e : TypeId} {ro : Bool} (b : Nat) (h0 : (b.blt k1.n && isNm (f.ext k.n h.n) b c) = true) (h1 : k1.get b = some ⟨cells, e, ro⟩) (hf : cells.all plain = true) : CovAt f k k1 h c ⟨cells, e, ro⟩ := by
 rw [Bool.and_eq_true] at h0
 exact .inl ⟨b, _, Nat.le_of_ble_eq_true h0.1, isNm_spec h0.2, h1, rfl, rfl, RNs.of_plain hf⟩
theorem SubS.cx {n0 : Nat} {f e : Em} {k s : St} {H : Heap} (hs : SubS n0 f k s) (h0 : X.h0.n = n0) (hx : CX X e s.H H) : CX X (f.comp e) k.H H := by
 subst h0; exact hs.mem.cx X.ok hx
theorem sd_loop (n : Nat) (a : Code) (K : List Kf) (hn : c.n = n) (hp : c.p = .code (.loop a)) (hK : c.K = K) (I : Nat → St → Prop) (m : Nat) (s0 : St) (f : Em) {n0 : Nat} (h0 : X.h0.n = n0) (hI : I m s0) (hs : SubS n0 f s0 c.s) (hk : kfix f K = true)
    (round : ∀ m s, I m s → ∀ R : St → Prop, (∀ s1 m' s' f, m' < m → I m' s' → SubS n0 f s' s1 → kfix f K = true → R s1) → SD P T X Q ⟨n, .code a, .inv R :: K, s⟩) : SD P T X Q c := by
 obtain ⟨n', p', K1, s⟩ := c
 cases hn; cases hp; cases hK
 intro e H tm' K' hx ht hK
 refine cf_loop n' a K' rfl rfl rfl (fun m st => ∃ s e, I m s ∧ CX X e s.H st.H ∧ TE e s.tm st.tm ∧ KE X K1 e K') m ⟨s0, f.comp e, hI, hs.cx h0 hx, hs.te.comp ht, KE.re hk hK⟩ ?_
 rintro m ⟨tm2, H2⟩ ⟨s, e2, g1, g2, g3, g4⟩ R' hR
 refine round m s g1 (fun s1 => ∃ m' s' f, m' < m ∧ I m' s' ∧ SubS n0 f s' s1 ∧ kfix f K1 = true) (fun s1 m' s' f a1 a2 a3 a4 => ⟨m', s', f, a1, a2, a3, a4⟩) e2 H2 tm2 (.inv R' :: K') g2 g3 ⟨R', K', rfl, ?_, g4⟩
 rintro s1 e1 H1 tm1 q1 q2 q3 ⟨m', s', f', a1, a2, a3, a4⟩
 exact hR ⟨tm1, H1⟩ ⟨m', a1, s', f'.comp e1, a2, a3.cx h0 q1, a3.te.comp q2, KE.re a4 q3⟩
theorem sd_inv (R : St → Prop) (h : invH c = some R) (hr : R c.s) : SD P T X Q c := by
 obtain ⟨n, p, K, s⟩ := c
 intro e H tm' K' hx ht hK
 unfold invH at h
 split at h
 ·rename_i q
  split at h
  ·rename_i R1 K1 q2
   cases h
   simp only at q q2 hx ht hK hr
   subst q q2
   obtain ⟨R', L, rfl, h1, h2⟩ := hK
   exact cf_inv R' rfl (h1 s e H tm' hx ht h2 hr)
  ·cases h
 ·cases h
theorem cf_midK (n : Nat) (a : Code) (K : List Kf) (s : St) (R : St → Prop) (h1 : Den P T ⟨n, .code a, .inv R :: K, s⟩ Q) (h2 : ∀ s', R s' → Den P T ⟨n, .done .normal, K, s'⟩ Q) : Den P T ⟨n, .code a, K, s⟩ Q := by
 unfold Den at h1 h2 ⊢
 simp only at h1 h2 ⊢
 refine Aw.mono h1 fun x s' h => ?_
 replace h : Xt.then R (kont P T n K Q) x s' := h
 cases x with
 | normal => unfold Xt.then at h; exact h2 s' h
 | ret => unfold Xt.then at h; exact h
 | exit i => unfold Xt.then at h; exact h
theorem sd_mid (n : Nat) (a : Code) (K : List Kf) (hn : c.n = n) (hp : c.p = .code a) (hK : c.K = K) (I : St → Prop) {n0 : Nat} (h0 : X.h0.n = n0)
    (h1 : ∀ R : St → Prop, (∀ s1 s' f, I s' → SubS n0 f s' s1 → kfix f K = true → R s1) → SD P T X Q ⟨n, .code a, .inv R :: K, c.s⟩) (h2 : ∀ s', I s' → SD P T X Q ⟨n, .done .normal, K, s'⟩) : SD P T X Q c := by
 obtain ⟨n', p', K1, s⟩ := c
 cases hn; cases hp; cases hK
 intro e H tm' K' hx ht hK
 refine cf_midK n' a K' _ (fun s' => Den P T ⟨n', .done .normal, K', s'⟩ Q) ?_ fun _ h => h
 refine h1 (fun s1 => ∃ s' f, I s' ∧ SubS n0 f s' s1 ∧ kfix f K1 = true) (fun s1 s' f a2 a3 a4 => ⟨s', f, a2, a3, a4⟩) e H tm' _ hx ht ⟨_, K', rfl, ?_, hK⟩
 rintro s1 e1 H1 tm1 q1 q2 q3 ⟨s', f', a2, a3, a4⟩
 exact h2 s' a2 (f'.comp e1) H1 tm1 K' (a3.cx h0 q1) (a3.te.comp q2) (KE.re a4 q3)
theorem scall_sd [OrcDat T] {f : FuncId} {fn : Func} {b : Code} {args : Array Value} {h : Heap} {R : Value → Heap → Prop} (n : Nat) (tm : Tr Value) (n0 : Nat) (ho : T.orc f args.toList = none) (hf : T.fn f = some fn) (hb : fn.body = some b) (hn : args.size + (fn.ntmps - args.size) = n) (ht : initTm 0 args = tm) (hh : h.n = n0)
    (hd : ∀ X : Cx, X.h0.n = n0 → SD P T X (QF T X fn.results R) ⟨n, .code b, [], ⟨tm, h⟩⟩) : SCall P T f args h R := by
 intro e args' H hN hA
 have hsz : args.size = args'.size := by simpa using hA.1
 refine acall_cf n (initTm 0 args') (by rw [OrcDat.rn inferInstance hA]; exact ho) hf hb (by rw [← hsz]; exact hn) rfl ?_
 exact hd ⟨h, e, H, hN⟩ hh e H (initTm 0 args') [] ⟨hN, Ex.refl _ _ _⟩ (by rw [← ht]; exact init_rn hA) rfl
theorem sd_end {rs : Array ResultVar} {R : Value → Heap → Prop} (v : Value) {n0 : Nat} (h0 : X.h0.n = n0) (he : atEnd c = true) (hp : rs.toList.all (presR c.s.tm) = true) (hv : aresults T c.s.tm c.s.H rs = some v) (w : Value) (k : Heap) (f : Em) (hs : Sub n0 f k c.s.H) (hw : RN f w v) (hr : R w k) : SD P T X (QF T X rs R) c := by
 subst h0
 obtain ⟨n, p, K, s⟩ := c
 intro e H tm' K' hx ht hK
 obtain ⟨v', g1, g2⟩ := aresults_rn ht hx.hn hp hv
 have hx' := hs.cx X.ok hx
 have hK' : K' = [] := by
  unfold atEnd at he
  split at he
  ·cases K with
   | nil => exact hK
   | cons => cases he
  ·cases K with
   | nil => exact hK
   | cons => cases he
  ·cases he
 subst hK'
 refine cf_end v' H ?_ g1 rfl ⟨w, k, _, hr, hx'.hn, hx'.ex, hw.comp g2⟩
 unfold atEnd at he ⊢
 split at he
 ·rename_i q; simp only at q; subst q; rfl
 ·rename_i q; simp only at q; subst q; rfl
 ·cases he
theorem SCall.at_ {f : FuncId} {args args' : Array Value} {h H : Heap} {R : Value → Heap → Prop} (hc : SCall P T f args h R) (e : Em) (hn : HN e h H) (ha : RNs e args.toList args'.toList) {R' : Value → Heap → Prop} (hr : ∀ v h1 e1 v' H1, R v h1 → HN e1 h1 H1 → Ex e e1 h H h1 H1 → RN e1 v v' → R' v' H1) : ACall P T f args' H R' :=
 (hc e args' H hn ha).mono fun v' H1 ⟨v, h1, e1, k1, k2, k3, k4⟩ => hr v h1 e1 v' H1 k1 k2 k3 k4
end
end Go.Ev
end
