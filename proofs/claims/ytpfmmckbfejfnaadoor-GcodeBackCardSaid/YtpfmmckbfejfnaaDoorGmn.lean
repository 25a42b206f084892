/- Slices of numbers that come in; the memory that the evaluator sees of several. -/
import Derived.Test.YtpfmmckbfejfnaaDoorGm
import Derived.Test.YtpfmmckbfejfnaaDoorGh
namespace Go.Proofs.YtpfmmckbfejfnaaDoor
open Go Go.Ev Go.ChangeShapes Go.WideShapes Go.ChangeAt Go.RowKit
set_option linter.unusedVariables false
set_option linter.unusedSimpArgs false
set_option maxRecDepth 100000
namespace Gc
/-- A slice of numbers in a world. -/
structure NumsAt (W : World) (kd : IntKind) (A : Option Addr) (l : List Int) : Prop where
  at_ : (A = none ∧ l = []) ∨ ∃ b off cs e fz, A = some ⟨b, off, none⟩ ∧ W.heap[b]? = some (.cells cs e fz) ∧ (l = [] ∨ off + l.length ≤ cs.size) ∧ ∀ k (h : k < l.length), cs[off + k]? = some (.int kd l[k])
theorem open_nums {H : Type} {enc : TypeId × Value → H} {W : World} {b0 : Nat} {t e : TypeId} {kd : IntKind} (ht : Tryd.prog.underlying t = some (.slice e)) (he : Tryd.prog.underlying e = some (.int kd)) (h1 : Tryd.prog.cellsOf e = 1) {v : Value} {d : DataW H} {ps : List MemPlace} (hv : Value.okWide Tryd.prog W .any b0 t v) (h : DataW.Trod enc Tryd.prog W 0 (fun _ => true) true t v d ps) :
    ∃ (A : Option Addr) (cap : Nat) (l : List Int), v = .slice A l.length cap ∧ NumsAt W kd A l ∧ (∀ x ∈ l, (Lit.int kd x).wf = true) ∧ (l.length ≤ cap ∧ cap ≤ maxLen) := by
  obtain ⟨a0, len, cap, rfl⟩ := okWide_slice ht hv
  obtain ⟨fuel, hf⟩ := h
  rcases open_ints ht he h1 hf with ⟨hcs, hx⟩ | ⟨a, len', cap', zs, hcs, _, hl, hm, hz, hx, hcell, hwz⟩
  · simp [Value.cells] at hcs
    obtain ⟨rfl, rfl, rfl⟩ := hcs
    exact ⟨none, 0, [], rfl, ⟨.inl ⟨rfl, rfl⟩⟩, fun _ h => (by cases h), ⟨by simp, by unfold maxLen; omega⟩⟩
  · simp [Value.cells] at hcs
    obtain ⟨rfl, rfl, rfl⟩ := hcs
    simp only [if_true] at hz
    have hlen : (zs.take len).length = len := by simp; omega
    refine ⟨some a, cap, zs.take len, by rw [hlen], ?_, fun x hx => hwz x (List.mem_of_mem_take hx), ⟨by rw [hlen]; exact hl, hm⟩⟩
    have hs : W.has Tryd.prog .any b0 a e cap := by
      have h2 := hv
      simp only [Value.okWide, ht, Cell.okWide, Cell.ok] at h2
      exact h2.2.2
    obtain ⟨_, hspot, row, cells, hsh, _⟩ := hs
    obtain ⟨b, off, spot⟩ := a
    have hspot : spot = none := hspot
    subst hspot
    obtain ⟨cs, e', fz, hb⟩ : ∃ cs e fz, W.heap[b]? = some (.cells cs e fz) := by
      unfold World.shape? at hsh
      split at hsh
      · rename_i c e f hc; exact ⟨c, e, f, hc⟩
      · cases hsh
    have hall : ∀ k, k < len → cs[off + k]? = some (.int kd (zs.getD k 0)) := fun k hk => by
      have hc := hcell k (by omega)
      rw [Addr.add_lit] at hc
      obtain ⟨cs', e', fz', h3, h4⟩ := cells_of hc
      rw [hb] at h3
      injection h3 with h3
      injection h3 with h5 h6 h7
      subst h5
      exact h4
    by_cases h0 : len = 0
    · subst h0
      exact ⟨.inr ⟨b, off, cs, e', fz, rfl, hb, .inl (by simp), fun k hk => by simp at hk⟩⟩
    · have hle : off + len ≤ cs.size := by
        have := (Array.getElem?_eq_some_iff.1 (hall (len - 1) (by omega))).1
        omega
      refine ⟨.inr ⟨b, off, cs, e', fz, rfl, hb, .inr (by rw [hlen]; exact hle), fun k hk => ?_⟩⟩
      rw [hlen] at hk
      rw [hall k hk, List.getElem_take, List.getD_eq_getElem?_getD, List.getElem?_eq_getElem (by omega)]
      rfl
theorem Nums.keep {H H' : Heap} {kd : IntKind} {v : Value} {l : List Int} (h : Nums H kd v l) (hn : H.n ≤ H'.n) (hg : ∀ b, b < H.n → H'.get b = H.get b) : Nums H' kd v l := by
  rcases h.at_ with h | ⟨A, off, cap, cells, e, ro, h1, gA, hA, hb⟩
  · exact ⟨.inl h⟩
  · exact ⟨.inr ⟨A, off, cap, cells, e, ro, h1, by rw [hg A hA]; exact gA, by omega, hb⟩⟩
/-- Memory that is only read, as the evaluator sees it. -/
structure RoRep [Bs] (m : Map) (H : Heap) (W : World) : Prop where
  wf : HWf H
  rep : Rep Tryd.prog m H W
  ro : ∀ b, ¬ H.wr b
theorem RoRep.start [Bs] {W : World} (hw : OnBs W) : RoRep (fun _ => none) ⟨.lf, 0⟩ W :=
  ⟨none_wf, none_rep hw, fun b hb => by obtain ⟨o, ho, _⟩ := hb; simp [Heap.get] at ho; cases b <;> simp [Tr.get] at ho⟩
theorem RoRep.push [Bs] {m : Map} {H : Heap} {W : World} (h : RoRep m H W) {o : Ob} {L : Ev.Loc} (ho : o.ro = true) (hk : BlkOk Tryd.prog m o L W) :
    RoRep (fun x => if x = H.n then some L else m x) (H.push o) W ∧ m.le (fun x => if x = H.n then some L else m x) := by
  have hle : m.le (fun x => if x = H.n then some L else m x) := fun b L' hb => by
    have := h.rep.dom b L' hb
    show (if b = H.n then some L else m b) = some L'
    rw [if_neg (by omega)]; exact hb
  have hro : ∀ b, ¬ (H.push o).wr b := by
    rintro b ⟨o', h1, h2⟩
    rw [Heap.get_push] at h1
    split at h1
    · injection h1 with h1; subst h1; rw [ho] at h2; cases h2
    · exact h.ro b ⟨o', h1, h2⟩
  have hn : (H.push o).n = H.n + 1 := Heap.n_push ..
  refine ⟨⟨fun b hb => ?_, ⟨⟨fun b L' hb => ?_, fun b L' o' hb h1 => ?_, fun b1 b2 L1 L2 k1 k2 k3 k4 k5 => (hro b1 k3).elim⟩, ⟨h.rep.bas.toOnBs, fun b L' hb hw => (hro b hw).elim⟩⟩, hro⟩, hle⟩
  · rw [Heap.get_push] at hb
    rw [hn]
    split at hb
    · omega
    · have := h.wf b hb; omega
  · rw [hn]
    by_cases e : b = H.n
    · omega
    · simp only [if_neg e] at hb
      have := h.rep.dom b L' hb; omega
  · rw [Heap.get_push] at h1
    by_cases e : b = H.n
    · subst e
      simp only [if_true] at hb h1
      injection hb with hb; injection h1 with h1
      subst hb h1
      exact hk.mono hle rfl
    · simp only [if_neg e] at hb h1
      exact (h.rep.blk b L' o' hb h1).mono hle rfl
/-- One slice of numbers more. -/
theorem RoRep.nums [Bs] [Tb] {m : Map} {H : Heap} {W : World} (h : RoRep m H W) {kd : IntKind} {e : TypeId} (hs : T20.size e = some 1) {A : Option Addr} {l : List Int} {cap : Nat} (hA : NumsAt W kd A l) (hcap : cap ≤ maxLen) :
    ∃ (a : Option Addr) (m' : Map) (H' : Heap), RoRep m' H' W ∧ m.le m' ∧ H.n ≤ H'.n ∧ (∀ b, b < H.n → H'.get b = H.get b) ∧ VR m' (.slice a l.length cap) (.slice A l.length cap) ∧ Nums H' kd (.slice a l.length cap) l := by
  have hcu : cap < Go.Ev.unk := by unfold maxLen at hcap; unfold Go.Ev.unk; omega
  obtain ⟨inf, hinf, hsz⟩ := progOk20.tab.size e 1 hs
  rcases hA.at_ with ⟨rfl, rfl⟩ | ⟨b, off, cs, e', fz, rfl, h1, h2, h3⟩
  · exact ⟨Option.none, m, H, h, fun _ _ h => h, Nat.le_refl _, fun _ _ => rfl, .same rfl, ⟨.inl ⟨cap, rfl, rfl⟩⟩⟩
  · have hn : ∀ o, (H.push o).n = H.n + 1 := fun o => Heap.n_push ..
    rcases h2 with rfl | h2
    · obtain ⟨k1, k2⟩ := h.push (o := ⟨[], e, true⟩) (L := Ev.Loc.mk b 0 0 1) rfl ⟨cs, e', fz, h1, by simp, fun i x hx => by simp at hx, fun h => by simp at h, inf, hinf, hsz⟩
      exact ⟨some ⟨H.n, off, none⟩, _, _, k1, k2, by rw [hn]; omega, fun b hb => by rw [Heap.get_push, if_neg (by omega)], .slice (L := Ev.Loc.mk b 0 0 1) (by simp) (.inl ⟨hcu, rfl, (Nat.zero_add _).symm⟩),
        ⟨.inr ⟨H.n, off, cap, [], e, true, rfl, by rw [Heap.get_push, if_pos rfl], by rw [hn]; omega, fun k hk => by simp at hk⟩⟩⟩
    · have hcl : ∀ (i : Nat) (x : Value), (l.map (Value.int kd))[i]? = some x → ∃ y, cs[off + i]? = some y ∧ VR m x y := fun i x hx => by
        rw [List.getElem?_map] at hx
        rcases Nat.lt_or_ge i l.length with hi | hi
        · rw [List.getElem?_eq_getElem hi] at hx
          refine ⟨x, by rw [h3 i hi]; exact hx, .same ?_⟩
          injection hx with hx; subst hx; rfl
        · rw [List.getElem?_eq_none hi] at hx; cases hx
      obtain ⟨k1, k2⟩ := h.push (o := ⟨l.map (Value.int kd), e, true⟩) (L := Ev.Loc.mk b off 0 1) rfl ⟨cs, e', fz, h1, by simpa using h2, hcl, fun h => by simp at h, inf, hinf, hsz⟩
      exact ⟨some ⟨H.n, 0, none⟩, _, _, k1, k2, by rw [hn]; omega, fun b hb => by rw [Heap.get_push, if_neg (by omega)], .slice (L := Ev.Loc.mk b off 0 1) (by simp) (.inl ⟨hcu, rfl, rfl⟩),
        ⟨.inr ⟨H.n, 0, cap, l.map (Value.int kd), e, true, rfl, by rw [Heap.get_push, if_pos rfl], by rw [hn]; omega, fun k hk => by rw [List.getElem?_map, show 0 + k * 1 = k by omega, List.getElem?_eq_getElem hk]; rfl⟩⟩⟩
end Gc
end Go.Proofs.YtpfmmckbfejfnaaDoor
