/- Each operation of the evaluator is the model's: loads, stores, what is made, what is computed. -/
import Derived.Test.YthmcpmdohmfeiaaGreatDoorEvC
namespace Go.Ev
open Go
set_option linter.unusedVariables false
set_option linter.unusedSimpArgs false
theorem one_eq (v : Value) : one v = v.oneCell' := by cases v <;> rfl
theorem VR.one {m : Map} {v v' : Value} (h : VR m v v') (h1 : one v = true) : v'.oneCell' = true := by
  cases h <;> simp_all [Ev.one, Value.oneCell']
  rename_i h; cases v <;> simp_all [Ev.one, Value.oneCell', plain]
theorem plain_one {v : Value} (h : plain v = true) : v.oneCell' = true := by cases v <;> simp_all [plain, Value.oneCell']
/-- What a value's cells are. -/
theorem VR.cells {m : Map} {v v' : Value} (h : VR m v v') : v'.cells.size = v.cells.size ∧ ∀ (i : Nat) (x : Value), v.cells[i]? = some x → ∃ y, v'.cells[i]? = some y ∧ VR m x y := by
  have key : ∀ u u', VR m u u' → u.cells = #[u] → u'.cells = #[u'] → u'.cells.size = u.cells.size ∧ ∀ (i : Nat) (x : Value), u.cells[i]? = some x → ∃ y, u'.cells[i]? = some y ∧ VR m x y := by
    intro u u' hu h1 h2
    rw [h1, h2]
    refine ⟨rfl, fun i x hx => ?_⟩
    cases i with
    | zero => simp at hx; subst hx; exact ⟨u', by simp, hu⟩
    | succ i => simp at hx
  cases h with
  | agg hs h =>
    refine ⟨hs.symm, fun i x hx => ?_⟩
    obtain ⟨h1, h2⟩ := Array.getElem?_eq_some_iff.1 hx
    simp only [Value.cells] at h1 h2 ⊢
    subst h2
    exact ⟨_, Array.getElem?_eq_getElem (by omega), h i h1 (by omega)⟩
  | same h => exact key _ _ (.same h) (by cases v <;> first | rfl | simp [plain] at h) (by cases v <;> first | rfl | simp [plain] at h)
  | ptr h hl => exact key _ _ (.ptr h hl) rfl rfl
  | map h hl => exact key _ _ (.map h hl) rfl rfl
  | iter h hl => exact key _ _ (.iter h hl) rfl rfl
  | slice h hl hc => exact key _ _ (.slice h hl hc) rfl rfl
  | tuple hs h => exact key _ _ (.tuple hs h) rfl rfl
  | func hs h ht k => exact key _ _ (.func hs h ht k) rfl rfl
  | iface h => exact key _ _ (.iface h) rfl rfl
/-- Two rows of values that go together. -/
def VRs (m : Map) (xs ys : List Value) : Prop := xs.length = ys.length ∧ ∀ (i : Nat) (x : Value), xs[i]? = some x → ∃ y, ys[i]? = some y ∧ VR m x y
theorem VRs.nil {m : Map} : VRs m [] [] := ⟨rfl, fun i x h => by simp at h⟩
theorem VRs.cons {m : Map} {x y : Value} {xs ys : List Value} (h : VR m x y) (k : VRs m xs ys) : VRs m (x :: xs) (y :: ys) :=
  ⟨by simp [k.1], fun i z hz => by cases i with
    | zero => simp at hz; subst hz; exact ⟨y, by simp, h⟩
    | succ i => simpa using k.2 i z (by simpa using hz)⟩
theorem VRs.mono {m m' : Map} (hm : m.le m') {xs ys : List Value} (h : VRs m xs ys) : VRs m' xs ys :=
  ⟨h.1, fun i x hx => by obtain ⟨y, hy, hv⟩ := h.2 i x hx; exact ⟨y, hy, hv.mono hm⟩⟩
theorem VRs.arr {m : Map} {xs ys : Array Value} (h : VRs m xs.toList ys.toList) : xs.size = ys.size ∧ ∀ i (h1 : i < xs.size) (h2 : i < ys.size), VR m xs[i] ys[i] := by
  refine ⟨by simpa using h.1, fun i h1 h2 => ?_⟩
  obtain ⟨y, hy, hv⟩ := h.2 i xs[i] (by simp [h1])
  have : y = ys[i] := by simp [h2] at hy; exact hy.symm
  subst this; exact hv
theorem VRs.of_arr {m : Map} {xs ys : Array Value} (hs : xs.size = ys.size) (h : ∀ i (h1 : i < xs.size) (h2 : i < ys.size), VR m xs[i] ys[i]) : VRs m xs.toList ys.toList :=
  ⟨by simpa using hs, fun i x hx => by
    obtain ⟨h1, h2⟩ := List.getElem?_eq_some_iff.1 hx
    simp at h1 h2; subst h2
    exact ⟨ys[i]'(by omega), by simp [show i < ys.size by omega], h i h1 (by omega)⟩⟩
theorem VRs.append {m : Map} {xs ys us vs : List Value} (h : VRs m xs ys) (k : VRs m us vs) : VRs m (xs ++ us) (ys ++ vs) := by
  refine ⟨by simp [h.1, k.1], fun i x hx => ?_⟩
  by_cases hi : i < xs.length
  · rw [List.getElem?_append_left hi] at hx
    rw [List.getElem?_append_left (by rw [← h.1]; exact hi)]
    exact h.2 i x hx
  · rw [List.getElem?_append_right (by omega)] at hx
    rw [List.getElem?_append_right (by rw [← h.1]; omega), ← h.1]
    exact k.2 _ x hx
theorem VRs.drop {m : Map} {xs ys : List Value} (h : VRs m xs ys) (n : Nat) : VRs m (xs.drop n) (ys.drop n) :=
  ⟨by simp [h.1], fun i x hx => by rw [List.getElem?_drop] at hx ⊢; exact h.2 _ x hx⟩
theorem VRs.take {m : Map} {xs ys : List Value} (h : VRs m xs ys) (n : Nat) : VRs m (xs.take n) (ys.take n) :=
  ⟨by simp [h.1], fun i x hx => by
    rw [List.getElem?_take] at hx ⊢
    split at hx
    · rw [if_pos ‹_›]; exact h.2 _ x hx
    · cases hx⟩
theorem VRs.set {m : Map} {xs ys : List Value} (h : VRs m xs ys) (n : Nat) {v v' : Value} (hv : VR m v v') : VRs m (xs.set n v) (ys.set n v') :=
  ⟨by simp [h.1], fun i x hx => by
    rw [List.getElem?_set] at hx ⊢
    split at hx
    · split at hx
      · cases hx; rw [if_pos ‹_›, if_pos (by rw [← h.1]; assumption)]; exact ⟨v', rfl, hv⟩
      · cases hx
    · rw [if_neg ‹_›]; exact h.2 _ x hx⟩
theorem VRs.agg {m : Map} {xs ys : Array Value} (h : VRs m xs.toList ys.toList) : VR m (.agg xs) (.agg ys) := .agg h.arr.1 h.arr.2
theorem VRs.of_closed {m : Map} {l : List Value} (h : l.all plain = true) : VRs m l l :=
  ⟨rfl, fun i x hx => ⟨x, hx, .same (List.all_eq_true.1 h x (List.mem_of_getElem? hx))⟩⟩
theorem VRs.one {m : Map} {xs ys : List Value} (h : VRs m xs ys) (h1 : xs.all Ev.one = true) : ∀ u ∈ ys, u.oneCell' = true := by
  intro u hu
  obtain ⟨i, hi⟩ := List.mem_iff_getElem?.1 hu
  have hlt := (List.getElem?_eq_some_iff.1 hi).1
  obtain ⟨y, hy, hv⟩ := h.2 i (xs[i]'(by rw [h.1]; exact hlt)) (by simp)
  rw [hi] at hy; cases hy
  exact hv.one (List.all_eq_true.1 h1 _ (by simp))
theorem VRs.cells {m : Map} {v v' : Value} (h : VR m v v') : VRs m v.cells.toList v'.cells.toList :=
  ⟨by simpa using h.cells.1.symm, fun i x hx => by obtain ⟨y, hy, hv⟩ := h.cells.2 i x (by simpa using hx); exact ⟨y, by simpa using hy, hv⟩⟩
/-- What a block's cells are in memory. -/
theorem CelOk.row {P : Program} {m : Map} {o : Ob} {L : Loc} {w : World} (h : CelOk P m o L w) : ∃ l, VRs m o.cells l ∧ (∀ (i : Nat) (y : Value), l[i]? = some y → w.cell? ⟨L.c, L.o + i, none⟩ = some y) := by
  obtain ⟨cs, e, fz, h1, h2, h3, h4⟩ := h
  refine ⟨(cs.toList.drop L.o).take o.cells.length, ⟨by simp; omega, fun i x hx => ?_⟩, fun i y hy => ?_⟩
  · obtain ⟨y, hy, hv⟩ := h3 i x hx
    have hi := (List.getElem?_eq_some_iff.1 hx).1
    exact ⟨y, by rw [List.getElem?_take, if_pos hi, List.getElem?_drop]; simpa using hy, hv⟩
  · rw [List.getElem?_take] at hy
    split at hy
    · rw [List.getElem?_drop] at hy
      simp [World.cell?, h1]; simpa using hy
    · cases hy
section
variable {P : Program} {T : Tab} (hT : TabOk P T) {m : Map} {H : Heap} {w : World}
include hT
theorem run_isAgg {t : TypeId} {d : TypeDesc} (h : T.under t = some d) : (Go.isAgg t).run P w = .ok (isRow d) w := by
  unfold Go.isAgg
  rw [Sem.run_bind, run_underlying (hT.under t d h) w]
  cases d <;> simp [isRow]
theorem run_size {t : TypeId} {n : Nat} (h : T.size t = some n) : (Go.sizeOf t).run P w = .ok n w := by
  obtain ⟨i, h1, h2⟩ := hT.size t n h
  simp [Go.sizeOf, typeInfo, h1, h2]
theorem run_under {t : TypeId} {d : TypeDesc} (h : T.under t = some d) : (Go.underlying t).run P w = .ok d w := run_underlying (hT.under t d h) w
theorem apart_sound {t : TypeId} {xs ys : Array Value} {off : Nat} {v : Value} (h : apart T t xs off = some v) (hv : VRs m xs.toList ys.toList) :
    ∃ v', (Go.part t ys off).run P w = .ok v' w ∧ VR m v v' := by
  unfold apart at h
  split at h
  · rename_i d n hd hn
    cases hr : isRow d
    · rw [hr] at h
      simp only [cond_false] at h
      obtain ⟨y, hy, hvy⟩ := hv.2 off v (by simpa using h)
      refine ⟨y, ?_, hvy⟩
      simp only [Array.getElem?_toList] at hy
      simp [Go.part, run_isAgg hT hd, hr, hy]
    · rw [hr] at h
      simp only [cond_true] at h
      cases h
      refine ⟨_, by simp [Go.part, run_isAgg hT hd, hr, run_size hT hn]; rfl, VRs.agg ?_⟩
      have := (hv.take (off + n)).drop off
      simpa [Array.toList_extract, List.extract_eq_take_drop, List.drop_take] using this
  · cases h
theorem aload_sound0 {t : TypeId} {v u u' : Value} (h : aload T t u H = some v) (hr : Rep0 P m H w) (hu : VR m u u') :
    ∃ v', (Instr.loadAt t u').run P w = .ok v' w ∧ VR m v v' := by
  unfold aload at h
  split at h
  · rename_i b off
    split at h
    · rename_i o d n ho hd hn
      cases hu with
      | same h => simp [plain] at h
      | ptr hb hmp =>
        rename_i L
        obtain ⟨l, hl, hc⟩ := ((hr.blk b L o hb ho).cel hmp).row
        cases hd' : isRow d
        · rw [hd'] at h
          simp only [cond_false] at h
          obtain ⟨y, hy, hvy⟩ := hl.2 off v h
          have := hc off y hy
          refine ⟨y, ?_, hvy⟩
          simp [Instr.loadAt, Instr.sureAddr, loadVar, run_isAgg hT hd, hd', this]
        · rw [hd'] at h
          simp only [cond_true] at h
          cases hlen : ((o.cells.drop off).take n).length.beq n
          · rw [hlen] at h; cases h
          rw [hlen] at h
          cases h
          have hlen' : ((o.cells.drop off).take n).length = n := by simpa using hlen
          have hv2 := (hl.drop off).take n
          have hl2 : ((l.drop off).take n).length = n := by rw [← hv2.1]; exact hlen'
          have hrun : (loadCells ⟨L.c, L.o + off, none⟩ n).run P w = .ok ((l.drop off).take n).toArray w := by
            have := run_loadCells_list (P := P) w ⟨L.c, L.o + off, none⟩ ((l.drop off).take n) (fun j y hy => by
              rw [Addr.add_mid]
              rw [List.getElem?_take] at hy
              split at hy
              · rw [List.getElem?_drop] at hy
                have := hc _ _ hy
                rwa [← Nat.add_assoc] at this
              · cases hy)
            rwa [hl2] at this
          refine ⟨.agg ((l.drop off).take n).toArray, ?_, VRs.agg (by simpa using hv2)⟩
          simp [Instr.loadAt, Instr.sureAddr, loadVar, run_isAgg hT hd, hd', run_size hT hn, hrun]
    · cases h
  · cases h
theorem aload_sound [Bs] {t : TypeId} {v u u' : Value} (h : aload T t u H = some v) (hr : Rep P m H w) (hu : VR m u u') :
    ∃ v', (Instr.loadAt t u').run P w = .ok v' w ∧ VR m v v' := aload_sound0 hT h hr.toRep0 hu
omit hT in
theorem splice_eq (l : List Value) (off : Nat) (cs : List Value) (h : off + cs.length ≤ l.length) : splice l off cs = l.take off ++ cs ++ l.drop (off + cs.length) := by
  unfold splice
  split
  · rename_i v
    simp at h ⊢
    rw [List.set_eq_take_append_cons_drop, if_pos (by omega)]
  · rfl
omit hT in
theorem splice_len (l : List Value) (off : Nat) (cs : List Value) (h : off + cs.length ≤ l.length) : (splice l off cs).length = l.length := by
  rw [splice_eq l off cs h]; simp; omega
omit hT in
/-- Cells into a block. -/
theorem aput_sound [Bs] {b off : Nat} {cs cs' : List Value} {H' : Heap} (h : aput b off cs H = some H') (hr : Rep P m H w) {L : Loc} (hb : m b = some L) (hmp : L.mp = false) (hcs : VRs m cs cs') :
    ∃ w', (storeCells ⟨L.c, L.o + off, none⟩ cs').run P w = .ok () w' ∧ Rep P m H' w' ∧ Fr m H w m H' w' := by
  unfold aput at h
  split at h
  · rename_i o ho
    cases hc : (!o.ro && cs.all one && (off + cs.length).ble o.cells.length)
    · rw [hc] at h; cases h
    · rw [hc] at h
      simp only [cond_true] at h
      cases h
      simp only [Bool.and_eq_true, Bool.not_eq_true', Nat.ble_eq] at hc
      obtain ⟨⟨hro, hone⟩, hlen⟩ := hc
      obtain ⟨cur, e, fz, h1, h2, h3, h4, hi⟩ := (hr.blk b L o hb ho).cel hmp
      obtain ⟨rfl, rfl, hsz⟩ := h4 hro
      have hone' := hcs.one hone
      have hcl : cs.length = cs'.length := hcs.1
      have hfit : L.o + off + cs'.length ≤ cur.size := by rw [← hcs.1]; omega
      have hst := run_storeCells_at P L.c (L.o + off) o.elem cs' 0 cur w h1 (by simpa using hfit) hone'
      refine ⟨_, hst, ?_⟩
      refine put_sound hr hb ho hro h1 (splice o.cells off cs) (splice_len _ _ _ hlen) _ (by simp; omega) fun k x hx => ?_
      rw [splice_eq _ _ _ hlen] at hx
      simp only [Nat.add_zero]
      by_cases hk1 : k < off
      · rw [List.append_assoc, List.getElem?_append_left (by simp; omega), List.getElem?_take, if_pos hk1] at hx
        obtain ⟨y, hy, hv⟩ := h3 k x hx
        refine ⟨y, ?_, hv⟩
        simp only [List.getElem?_toArray]
        rw [List.append_assoc, List.getElem?_append_left (by simp; omega), List.getElem?_take, if_pos (by omega)]
        simpa using hy
      · by_cases hk2 : k < off + cs.length
        · rw [List.getElem?_append_left (by simp; omega), List.getElem?_append_right (by simp; omega)] at hx
          simp only [List.length_take, show min off o.cells.length = off by omega] at hx
          obtain ⟨y, hy, hv⟩ := hcs.2 _ x hx
          refine ⟨y, ?_, hv⟩
          simp only [List.getElem?_toArray]
          rw [List.getElem?_append_left (by simp; omega), List.getElem?_append_right (by simp; omega)]
          simp only [List.length_take, Array.length_toList, show min (L.o + off) cur.size = L.o + off by omega]
          rwa [show L.o + k - (L.o + off) = k - off by omega]
        · rw [List.getElem?_append_right (by simp; omega), List.getElem?_drop] at hx
          simp only [List.length_append, List.length_take, show min off o.cells.length = off by omega] at hx
          obtain ⟨y, hy, hv⟩ := h3 _ x hx
          refine ⟨y, ?_, hv⟩
          simp only [List.getElem?_toArray]
          rw [List.getElem?_append_right (by simp; omega), List.getElem?_drop]
          simp only [List.length_append, List.length_take, Array.length_toList, show min (L.o + off) cur.size = L.o + off by omega, ← hcs.1]
          rw [show L.o + off + cs.length + (L.o + k - (L.o + off + cs.length)) = L.o + (off + cs.length + (k - (off + cs.length))) by omega]
          simpa using hy
  · cases h
theorem astore_sound [Bs] {t : TypeId} {u u' x x' : Value} {H' : Heap} (h : astore T t u x H = some H') (hr : Rep P m H w) (hu : VR m u u') (hx : VR m x x') :
    ∃ w', (Instr.storeAt t u' x').run P w = .ok () w' ∧ Rep P m H' w' ∧ Fr m H w m H' w' := by
  unfold astore at h
  split at h
  · rename_i b off
    split at h
    · rename_i n hn
      cases hc : x.cells.size.beq n
      · rw [hc] at h; cases h
      · rw [hc] at h
        simp only [cond_true] at h
        cases hu with
        | same h => simp [plain] at h
        | ptr hb hmp =>
          rename_i L
          obtain ⟨w', h1, h2, h3⟩ := aput_sound h hr hb hmp (VRs.cells hx)
          refine ⟨w', ?_, h2, h3⟩
          have hs : x'.cells.size = n := by rw [hx.cells.1]; simpa using hc
          simp [Instr.storeAt, Instr.sureAddr, storeVar, run_size hT hn, hs, h1]
    · cases h
  · cases h
end
end Go.Ev
