/- Slices that come in: their cells; the memory that the evaluator sees of several. -/
import Derived.Test.YtahikechkggbfaaEvSh
import Derived.WalkKit
import Derived.ProofKit
import Derived.OpenShut
import Derived.Deep.Slices
import Derived.Deep.Fields
import Derived.ChangeSlices
import Derived.ChangeSame
import Derived.WideKeyArgs
namespace Go.Ev
open Go Go.ChangeShapes Go.WideShapes Go.ChangeAt Go.RowKit
set_option linter.unusedVariables false
set_option linter.unusedSimpArgs false
set_option maxRecDepth 100000
theorem cells_of {w : World} {b off : Nat} {x : Value} (h : w.cell? ⟨b, off, none⟩ = some x) : ∃ cs e fz, w.heap[b]? = some (.cells cs e fz) ∧ cs[off]? = some x := by
  unfold World.cell? at h
  split at h
  · rename_i cs e fz hc
    exact ⟨cs, e, fz, hc, by simpa using h⟩
  · cases h
/-- A row of cells in a world. -/
structure RowW (W : World) (A : Option Addr) (cells : List Value) : Prop where
  at_ : (A = none ∧ cells = []) ∨ ∃ b off cs e fz, A = some ⟨b, off, none⟩ ∧ W.heap[b]? = some (.cells cs e fz) ∧ (cells = [] ∨ off + cells.length ≤ cs.size) ∧ ∀ i x, cells[i]? = some x → cs[off + i]? = some x
/-- Cells that lie one behind the other in a block. -/
theorem RowW.of_cells {W : World} {A : Addr} {cells : List Value} (hA : A.spot = none) (hb : ∃ cs e fz, W.heap[A.block]? = some (.cells cs e fz)) (hc : ∀ i x, cells[i]? = some x → W.cell? (A.add i) = some x) : RowW W (some A) cells := by
  obtain ⟨b, off, sp⟩ := A
  have hA : sp = none := hA
  subst hA
  obtain ⟨cs, e, fz, hb⟩ := hb
  have hall : ∀ i x, cells[i]? = some x → cs[off + i]? = some x := fun i x hx => by
    have h := hc i x hx
    rw [Addr.add_lit] at h
    obtain ⟨cs', e', fz', h3, h4⟩ := cells_of h
    rw [hb] at h3
    injection h3 with h3
    injection h3 with h5 h6 h7
    subst h5
    exact h4
  refine ⟨.inr ⟨b, off, cs, e, fz, rfl, hb, ?_, hall⟩⟩
  by_cases h0 : cells.length = 0
  · exact .inl (List.length_eq_zero_iff.1 h0)
  · have := (Array.getElem?_eq_some_iff.1 (hall (cells.length - 1) _ (List.getElem?_eq_getElem (by omega)))).1
    exact .inr (by omega)
theorem has_block {P : Program} {W : World} {r : Reach} {b0 : Nat} {t e : TypeId} {a : Addr} {len cap : Nat} (ht : P.underlying t = some (.slice e)) (hv : Value.okWide P W r b0 t (.slice (some a) len cap)) : a.spot = none ∧ ∃ cs e fz, W.heap[a.block]? = some (.cells cs e fz) := by
  have hs : W.has P r b0 a e cap := by
    have h2 := hv
    simp only [Value.okWide, ht, Cell.okWide, Cell.ok] at h2
    exact h2.2.2
  obtain ⟨_, hspot, row, cells, hsh, _⟩ := hs
  refine ⟨hspot, ?_⟩
  unfold World.shape? at hsh
  split at hsh
  · rename_i c e f hc; exact ⟨c, e, f, hc⟩
  · cases hsh
/-- A slice of numbers that came in. -/
theorem open_nums {P : Program} {H : Type} {enc : TypeId × Value → H} {W : World} {r : Reach} {b0 : Nat} {t e : TypeId} {kd : IntKind} (ht : P.underlying t = some (.slice e)) (he : P.underlying e = some (.int kd)) (h1 : P.cellsOf e = 1) {v : Value} {d : DataW H} {ps : List MemPlace} (hv : Value.okWide P W r b0 t v) (h : DataW.Trod enc P W 0 (fun _ => true) true t v d ps) :
    ∃ (A : Option Addr) (cap : Nat) (l : List Int), v = .slice A l.length cap ∧ RowW W A (l.map (Value.int kd)) ∧ (∀ x ∈ l, (Lit.int kd x).wf = true) ∧ (l.length ≤ cap ∧ cap ≤ maxLen) := by
  obtain ⟨a0, len, cap, rfl⟩ := okWide_slice ht hv
  obtain ⟨fuel, hf⟩ := h
  rcases open_ints ht he h1 hf with ⟨hcs, hx⟩ | ⟨a, len', cap', zs, hcs, _, hl, hm, hz, hx, hcell, hwz⟩
  · simp [Value.cells] at hcs
    obtain ⟨rfl, rfl, rfl⟩ := hcs
    exact ⟨none, 0, [], rfl, ⟨.inl ⟨rfl, rfl⟩⟩, fun _ h => (by cases h), ⟨by simp, by unfold maxLen; omega⟩⟩
  · simp [Value.cells] at hcs
    obtain ⟨rfl, rfl, rfl⟩ := hcs
    simp only [if_true] at hz
    have hlen : (zs.take len).length = len := by simp; omega
    obtain ⟨hspot, hb⟩ := has_block ht hv
    refine ⟨some a, cap, zs.take len, by rw [hlen], RowW.of_cells hspot hb fun i x hx => ?_, fun x hx => hwz x (List.mem_of_mem_take hx), ⟨by rw [hlen]; exact hl, hm⟩⟩
    rw [List.getElem?_map, List.getElem?_take] at hx
    split at hx
    · rename_i hi
      have hc := hcell i (by omega)
      rw [hc, List.getD_eq_getElem?_getD]
      cases hz2 : zs[i]? with
      | none => rw [hz2] at hx; cases hx
      | some y => rw [hz2] at hx; exact hx
    · cases hx
section
variable {H : Type} {enc : TypeId × Value → H} {P : Program} {w : World} {base : Nat} {spare : Nat → Bool} {held : Bool}
theorem open_slice_fields {t e : TypeId} {fs : Array Field} {fuel : Nat} {cs : List Value} {x : DataW H × List MemPlace} (ht : P.underlying t = some (.slice e)) (he : P.underlying e = some (.struct fs))
    (hone : Go.Deep.oneCellFields P fs = true) (hC : P.cellsOf e = fs.size) (h : DataW.trod enc P w base spare held fuel t cs = some x) :
    (cs = [.slice none 0 0] ∧ x = (.nil, [])) ∨
    ∃ (a : Addr) (len cap m : Nat) (D : Nat → DataW H) (Pl : Nat → List MemPlace), cs = [.slice (some a) len cap] ∧ base ≤ a.block ∧ len ≤ cap ∧ cap ≤ maxLen ∧ m = (if spare a.block then cap else len) ∧
      x = (.slice ((List.range len).map D) ((List.range (m - len)).map fun j => D (len + j)), MemPlace.row a (m * fs.size) ++ (List.range m).flatMap Pl) ∧
      ∀ i, i < m → ∃ (ys : List (DataW H × List MemPlace)) (n : Nat), D i = .agg (ys.map (·.1)) ∧ Pl i = ys.flatMap (·.2) ∧ ys.length = fs.size ∧
        ∀ (j : Nat) (f : Field), fs[j]? = some f → ∃ (v : Value) (y : DataW H × List MemPlace), w.cell? (a.add (i * fs.size + j)) = some v ∧ ys[j]? = some y ∧ DataW.trod enc P w base spare held n f.type [v] = some y := by
  rcases Go.Deep.open_slice ht h with h0 | ⟨a, len, cap, m, n, D, Pl, hcs, hb, hl, hm, hmm, hx, hi⟩
  · exact .inl h0
  · refine .inr ⟨a, len, cap, m, D, Pl, hcs, hb, hl, hm, hmm, by rw [hC] at hx; exact hx, fun i him => ?_⟩
    obtain ⟨cs', hc, ht'⟩ := hi i him
    rw [hC] at hc
    obtain ⟨ys, n', hn', hy, hlen, hyl, hf⟩ := DataW.trod_struct he ht'
    obtain ⟨_, hcl, hat⟩ := World.cells?_some hc
    simp only [Prod.mk.injEq] at hy
    refine ⟨ys, n', hy.1, hy.2, hyl, fun j f hj => ?_⟩
    obtain ⟨ho, hk⟩ := Go.Deep.hone_of hone j f hj
    have hjl : j < fs.size := (Array.getElem?_eq_some_iff.1 hj).1
    have hcell := hat j hjl
    have hv : cs'[j]? = some (cs'[j]'(by omega)) := List.getElem?_eq_getElem (by omega)
    have h1 := hf j f hj
    rw [ho, hk] at h1
    have hone' : (cs'.drop j).take 1 = [cs'[j]'(by omega)] := by
      rw [List.drop_eq_getElem_cons (by omega)]
      rfl
    rw [hone'] at h1
    have hys : ys[j]? = some (ys[j]'(by omega)) := List.getElem?_eq_getElem (by omega)
    refine ⟨_, _, ?_, hys, h1.trans hys⟩
    rw [← Go.Deep.add_add, hcell, hv]
end
section
variable {H : Type} {enc : TypeId × Value → H} {P : Program}
theorem post_of_below {f : Func} {s : ChangeSpec} {apart fresh handsOn again : Bool} {W W' : World} {args : Array Value} {v : Value} {ds gs : List (DataW H)} {before pa pv : List MemPlace}
    (hW : DataW.Whole enc P f.params.toList s.vars apart W args.toList ds gs before)
    (hres : ∀ (b : Nat) (sp : Nat → Bool) (hd : Bool), DataW.TrodAll enc P W' b sp hd f.resultTypes.toList (v.resultList f.resultTypes.size) (s.fn H (ds ++ gs)).results [])
    (hargs : ∀ sp : Nat → Bool, (∀ p ∈ before, sp p.block = true) → DataW.TrodAll enc P W' 0 sp true f.params.toList args.toList (s.fn H (ds ++ gs)).args pa)
    (hvars : ∀ sp : Nat → Bool, (∀ p ∈ before, sp p.block = true) → DataW.TrodVars enc P W' sp s.vars (s.fn H (ds ++ gs)).vars pv)
    (hps : before = pa ++ pv) (hb : Below W.heap.size W W')
    (hok : ∀ (j : Nat) (t : TypeId) (r : Value), f.resultTypes[j]? = some t → (v.resultList f.resultTypes.size)[j]? = some r → Value.okWide P W' .any 0 t r) :
    s.post enc P f apart fresh handsOn again W args v W' := by
  have hlt : ∀ p ∈ before, p.block < W.heap.size := fun p hp => hW.lt p hp
  have hold : ∀ p ∈ before, (fun b => decide (b < W.heap.size)) p.block = true := fun p hp => by simpa using hlt p hp
  refine ⟨ds, gs, before, [], pa, pv, hW, hres _ _ _, hargs _ hold, hvars _ hold, World.keptBut_mono (fun p hp => ⟨hp, ?_⟩) (hb.frame (· ∈ before)), fun _ => ?_⟩
  · rw [hps, List.mem_append] at hp
    exact Or.inr hp
  · obtain ⟨_, _, _, _, _, hz, hn⟩ := hW
    refine ⟨hok, _, _, ([] ++ pa) ++ pv, ⟨[] ++ pa, pv, trodAll_append (hargs _ (fun _ _ => rfl)) (hres _ _ _), hvars _ (fun _ _ => rfl), rfl, ?_, ?_⟩, ?_⟩
    · intro b off hp
      have hin : MemPlace.cell b off ∈ before := by rw [hps]; simpa using hp
      rw [hb.frozen (hlt _ hin)]
      exact hz b off hin
    · intro ha
      have := hn ha
      rw [hps] at this
      simpa using this
    · intro p hp _
      rw [hps]
      simpa using hp
end
/-- Memory that is only read, as the evaluator sees it. -/
structure RoRep [Bs] (P : Program) (m : Map) (H : Heap) (W : World) : Prop where
  wf : HWf H
  rep : Rep P m H W
  ro : ∀ b, ¬ H.wr b
theorem RoRep.start [Bs] {P : Program} {W : World} (hw : OnBs W) : RoRep P (fun _ => none) ⟨.lf, 0⟩ W :=
  ⟨fun b hb => by simp [Heap.get] at hb; cases b <;> simp [Tr.get] at hb, ⟨⟨fun b L hb => (by cases hb), fun b L o hb => (by cases hb), fun b1 b2 L1 L2 hb => (by cases hb)⟩, ⟨hw, fun b L hb => (by cases hb)⟩⟩, fun b hb => by obtain ⟨o, ho, _⟩ := hb; simp [Heap.get] at ho; cases b <;> simp [Tr.get] at ho⟩
theorem RoRep.push [Bs] {P : Program} {m : Map} {H : Heap} {W : World} (h : RoRep P m H W) {o : Ob} {L : Ev.Loc} (ho : o.ro = true) (hk : BlkOk P m o L W) :
    RoRep P (fun x => if x = H.n then some L else m x) (H.push o) W ∧ m.le (fun x => if x = H.n then some L else m x) := by
  have hle : m.le (fun x => if x = H.n then some L else m x) := fun b L' hb => by
    have := h.rep.dom b L' hb
    show (if b = H.n then some L else m b) = some L'
    rw [if_neg (by omega)]; exact hb
  have hro : ∀ b, ¬ (H.push o).wr b := by
    rintro b ⟨o', h1, h2⟩
    rw [Heap.get_push] at h1
    split at h1
    · injection h1 with h1; subst h1; rw [ho] at h2; cases h2
    · exact h.ro b ⟨o', h1, h2⟩
  have hn : (H.push o).n = H.n + 1 := Heap.n_push ..
  refine ⟨⟨fun b hb => ?_, ⟨⟨fun b L' hb => ?_, fun b L' o' hb h1 => ?_, fun b1 b2 L1 L2 k1 k2 k3 k4 k5 => (hro b1 k3).elim⟩, ⟨h.rep.bas.toOnBs, fun b L' hb hw => (hro b hw).elim⟩⟩, hro⟩, hle⟩
  · rw [Heap.get_push] at hb
    rw [hn]
    split at hb
    · omega
    · have := h.wf b hb; omega
  · rw [hn]
    by_cases e : b = H.n
    · omega
    · simp only [if_neg e] at hb
      have := h.rep.dom b L' hb; omega
  · rw [Heap.get_push] at h1
    by_cases e : b = H.n
    · subst e
      simp only [if_true] at hb h1
      injection hb with hb; injection h1 with h1
      subst hb h1
      exact hk.mono hle rfl
    · simp only [if_neg e] at hb h1
      exact (h.rep.blk b L' o' hb h1).mono hle rfl
/-- One slice more: its cells lie in a block of their own, that is only read. -/
theorem RoRep.row [Bs] {P : Program} {T : Tab} (hP : ProgOk P T) {m : Map} {H : Heap} {W : World} (h : RoRep P m H W) {e : TypeId} {es : Nat} (hs : T.size e = some es) {A : Option Addr} {cells : List Value} {len cap : Nat} (hA : RowW W A cells) (hp : ∀ x ∈ cells, plain x = true) (hl : A = none → len = 0) (hcap : cap ≤ maxLen) :
    ∃ (a : Option Addr) (m' : Map) (H' : Heap), RoRep P m' H' W ∧ m.le m' ∧ H.n ≤ H'.n ∧ (∀ b, b < H.n → H'.get b = H.get b) ∧ VR m' (.slice a len cap) (.slice A len cap) ∧ ((a = none ∧ len = 0 ∧ cells = []) ∨ ∃ B off, a = some ⟨B, off, none⟩ ∧ H'.get B = some ⟨cells, e, true⟩ ∧ B < H'.n ∧ (cells = [] ∨ off = 0)) := by
  have hcu : cap < Go.Ev.unk := by unfold maxLen at hcap; unfold Go.Ev.unk; omega
  obtain ⟨inf, hinf, hsz⟩ := hP.tab.size e es hs
  rcases hA.at_ with ⟨rfl, rfl⟩ | ⟨b, off, cs, e', fz, rfl, h1, h2, h3⟩
  · exact ⟨Option.none, m, H, h, fun _ _ h => h, Nat.le_refl _, fun _ _ => rfl, .same rfl, .inl ⟨rfl, hl rfl, rfl⟩⟩
  · have hn : ∀ o, (H.push o).n = H.n + 1 := fun o => Heap.n_push ..
    rcases h2 with rfl | h2
    · obtain ⟨k1, k2⟩ := h.push (o := ⟨[], e, true⟩) (L := Ev.Loc.mk b 0 0 es) rfl ⟨cs, e', fz, h1, by simp, fun i x hx => by simp at hx, fun h => by simp at h, inf, hinf, hsz⟩
      exact ⟨some ⟨H.n, off, none⟩, _, _, k1, k2, by rw [hn]; omega, fun b hb => by rw [Heap.get_push, if_neg (by omega)], .slice (L := Ev.Loc.mk b 0 0 es) (by simp) (.inl ⟨hcu, rfl, (Nat.zero_add _).symm⟩),
        .inr ⟨H.n, off, rfl, by rw [Heap.get_push, if_pos rfl], by rw [hn]; omega, .inl rfl⟩⟩
    · obtain ⟨k1, k2⟩ := h.push (o := ⟨cells, e, true⟩) (L := Ev.Loc.mk b off 0 es) rfl ⟨cs, e', fz, h1, by simpa using h2, fun i x hx => ⟨x, h3 i x hx, .same (hp x (List.mem_of_getElem? hx))⟩, fun h => by simp at h, inf, hinf, hsz⟩
      exact ⟨some ⟨H.n, 0, none⟩, _, _, k1, k2, by rw [hn]; omega, fun b hb => by rw [Heap.get_push, if_neg (by omega)], .slice (L := Ev.Loc.mk b off 0 es) (by simp) (.inl ⟨hcu, rfl, rfl⟩),
        .inr ⟨H.n, 0, rfl, by rw [Heap.get_push, if_pos rfl], by rw [hn]; omega, .inr rfl⟩⟩
theorem calls_ro [Bs] {P : Program} {T : Tab} (hP : ProgOk P T) {f : FuncId} {args args' : Array Value} {v : Value} {m : Map} {H : Heap} {W : World} (h : ACall P T f args H fun r _ => r = v) (hv : closed v = true) (hr : RoRep P m H W) (ha : VRs m args.toList args'.toList) : Calls P f args' W fun e w' => e = .returned v ∧ Below W.heap.size W w' := by
  refine (h.calls hP hr.wf hr.rep ha).mono fun e w' hp => ?_
  obtain ⟨v1, H', rfl, v', m', rfl, hv', _, hf⟩ := hp
  rw [hv'.closed_eq hv]
  exact ⟨rfl, hf.os, hf.tape, hf.output, hf.size, fun c hc => hf.keep c hc (by rintro ⟨b, L, _, hb, _⟩; exact hr.ro b hb)⟩
theorem onbs_any (W : World) : @OnBs ⟨W, W.heap.size⟩ W := @OnBs.mk ⟨W, W.heap.size⟩ W (Nat.le_refl _) (fun _ _ => rfl)
end Go.Ev
