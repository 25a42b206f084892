/- Each operation of the evaluator is the model's, the last of them: what is made, appended, copied, turned. -/
import Derived.Test.YthmcpmdohmfeiaaGreatDoorEvE
namespace Go.Ev
open Go
set_option linter.unusedVariables false
set_option linter.unusedSimpArgs false
inductive PR (m : Map) : List (Nat × Value) → List (Nat × Value) → Prop where
  | nil : PR m [] []
  | cons {i : Nat} {v v' : Value} {l l' : List (Nat × Value)} (h : VR m v v') (k : PR m l l') : PR m ((i, v) :: l) ((i, v') :: l')
theorem foldset {m : Map} (off : Nat) : ∀ (l l' : List Value) (k : Nat) (cells cells' : Array Value), VRs m l l' → VRs m cells.toList cells'.toList →
    VRs m ((l.zipIdx k).foldl (fun cs (p : Value × Nat) => cs.setIfInBounds (off + p.2) p.1) cells).toList ((l'.zipIdx k).foldl (fun cs (p : Value × Nat) => cs.setIfInBounds (off + p.2) p.1) cells').toList := by
  intro l
  induction l with
  | nil =>
    intro l' k cells cells' h hc
    have : l' = [] := List.eq_nil_of_length_eq_zero (by have := h.1; simp at this; exact this.symm)
    subst this
    simpa using hc
  | cons x l ih =>
    intro l' k cells cells' h hc
    cases l' with
    | nil => have := h.1; simp at this
    | cons y l' =>
      obtain ⟨y', hy, hv⟩ := h.2 0 x (by simp)
      simp at hy
      subst hy
      simp only [List.zipIdx_cons, List.foldl_cons]
      refine ih l' (k + 1) _ _ ⟨by have := h.1; simpa using this, fun i z hz => by simpa using h.2 (i + 1) z (by simpa using hz)⟩ ?_
      rw [Array.toList_setIfInBounds, Array.toList_setIfInBounds]
      exact hc.set _ hv
theorem fill_sound {m : Map} {place : Nat → Option (Nat × Nat)} : ∀ (parts parts' : List (Nat × Value)) (cells cells' r : Array Value), Instr.fill place cells parts = some r → VRs m cells.toList cells'.toList → PR m parts parts' →
    ∃ r', Instr.fill place cells' parts' = some r' ∧ VRs m r.toList r'.toList := by
  intro parts
  induction parts with
  | nil =>
    intro parts' cells cells' r h hc hp
    cases hp
    simp only [Instr.fill] at h ⊢
    cases h
    exact ⟨_, rfl, hc⟩
  | cons p parts ih =>
    intro parts' cells cells' r h hc hp
    cases hp with
    | cons hv hk =>
      rename_i i v v' l'
      simp only [Instr.fill] at h ⊢
      split at h
      · cases h
      · rename_i off size hpl
        simp only [hv.cells.1, ← show cells.size = cells'.size by simpa using hc.1]
        split at h
        · cases h
        · rename_i hcond
          rw [if_neg hcond]
          refine ih l' _ _ r h ?_ hk
          have := foldset (m := m) off v.cells.toList v'.cells.toList 0 cells cells' (VRs.cells hv) hc
          rw [← Array.foldl_toList, ← Array.foldl_toList, Array.toList_zipIdx, Array.toList_zipIdx]
          exact this
/-- A run that makes one block. -/
def Mk (P : Program) (m : Map) (n : Nat) (w : World) (r : Result Value) (v : Value) (ob : Ob) : Prop :=
  ∃ v' cs i, r = .ok v' (w.alloc (.cells cs ob.elem)) ∧ P.info? ob.elem = some i ∧ ob.ro = false ∧ ob.cells.length ≤ cs.size ∧ (∀ (k : Nat) (x : Value), ob.cells[k]? = some x → ∃ y, cs[k]? = some y ∧ VR m x y) ∧ VR (m.add n ⟨w.heap.size, 0, cs.size, i.size, false⟩) v v'
theorem Mk.sound [Bs] {P : Program} {m : Map} {H : Heap} {w : World} {r : Result Value} {v : Value} {ob : Ob} (h : Mk P m H.n w r v ob) (hr : Rep P m H w) :
    ∃ v' w' m', r = .ok v' w' ∧ VR m' v v' ∧ Rep P m' (H.push ob) w' ∧ Fr m H w m' (H.push ob) w' := by
  obtain ⟨v', cs, i, h1, h2, h3, h4, h5, h6⟩ := h
  have hp := push_sound hr ob cs h3 i h2 h4 h5
  exact ⟨v', _, _, h1, h6, hp.1, hp.2⟩
theorem nat_mod_lt (k s : Nat) (h : 0 < s) : k % s < s := Nat.mod_lt _ h
theorem zerosOf_get {z : List Value} {n : Nat} (hz : 0 < z.length) : (zerosOf z n).length = n * z.length ∧ ∀ k, k < n * z.length → (zerosOf z n)[k]? = z[k % z.length]? := by
  have gen : ∀ n, ((List.replicate n z).flatten).length = n * z.length ∧ ∀ k, k < n * z.length → ((List.replicate n z).flatten)[k]? = z[k % z.length]? := by
    intro n
    induction n with
    | zero => simp
    | succ n ih =>
      refine ⟨by simp [List.replicate_succ, ih.1, Nat.add_mul, Nat.add_comm], fun k hk => ?_⟩
      rw [List.replicate_succ, List.flatten_cons]
      by_cases h : k < z.length
      · rw [List.getElem?_append_left h, Nat.mod_eq_of_lt h]
      · rw [List.getElem?_append_right (by omega), ih.2 _ (by rw [Nat.add_mul] at hk; omega), ← Nat.mod_eq_sub_mod (by omega)]
  unfold zerosOf
  split
  · rename_i v
    refine ⟨by simp, fun k hk => ?_⟩
    simp at hk
    simp [List.getElem?_replicate, hk, Nat.mod_one]
  · exact gen n
theorem madeCells_eq {z : Array Value} (hz : 0 < z.size) (n : Nat) : (madeCells z (n * z.size)).toList = zerosOf z.toList n := by
  have h := zerosOf_get (z := z.toList) (n := n) (by simpa using hz)
  simp only [Array.length_toList] at h
  apply List.ext_getElem?
  intro k
  by_cases hk : k < n * z.size
  · rw [h.2 k hk]
    have hm := nat_mod_lt k z.size hz
    simp [madeCells, hk, hm]
  · rw [List.getElem?_eq_none (by simp [size_madeCells]; omega), List.getElem?_eq_none (by rw [h.1]; omega)]
section
variable {P : Program} {T : Tab} (hT : TabOk P T) {m : Map} {H : Heap} {w : World}
theorem closed_cells {z : Value} (hz : closed z = true) (h1 : z.cells.all (·.oneCell') = true) : VRs m z.cells.toList z.cells.toList := VRs.cells (VR.of_closed hz)
include hT
theorem run_zero {t : TypeId} {z : Value} (h : T.zero t = some z) : (Go.zeroValue t).run P w = .ok z w := by
  obtain ⟨i, h1, h2, _⟩ := hT.zero t z h
  simp [Go.zeroValue, typeInfo, h1, h2]
/-- A variable. -/
theorem alloc_mk (m : Map) (n : Nat) (w : World) {e : TypeId} {z : Value} (hz : T.zero e = some z) (hc : closed z = true) :
    Mk P m n w ((Instr.alloc e true (.tuple #[])).run P w) (.pointer (some ⟨n, 0, none⟩)) ⟨z.cells.toList, e, false⟩ := by
  obtain ⟨i, h1, h2, h3, h4⟩ := hT.zero e z hz
  refine ⟨.pointer (some ⟨w.heap.size, 0, none⟩), z.cells, i, by simp [Instr.alloc, run_zero hT hz, newVar, newRow], h1, rfl, by simp, fun k x hx => ?_, ?_⟩
  · obtain ⟨y, hy, hv⟩ := (closed_cells (m := m) hc h4).2 k x hx
    exact ⟨y, by simpa using hy, hv⟩
  · have := VR.ptr (m := m.add n ⟨w.heap.size, 0, z.cells.size, i.size, false⟩) (off := 0) (Map.add_self m n ⟨w.heap.size, 0, z.cells.size, i.size, false⟩) rfl
    simpa using this
omit hT in
theorem box_mk (n : Nat) (w : World) {e : TypeId} {v v' : Value} {i : TypeInfo} (hi : P.info? e = some i) (hv : VR m v v') :
    Mk P m n w ((Instr.box e v').run P w) (.pointer (some ⟨n, 0, none⟩)) ⟨v.cells.toList, e, false⟩ := by
  refine ⟨.pointer (some ⟨w.heap.size, 0, none⟩), v'.cells, i, by simp [Instr.box, newVar, newRow], hi, rfl, by simp [hv.cells.1], fun k x hx => ?_, ?_⟩
  · obtain ⟨y, hy, hv⟩ := hv.cells.2 k x (by simpa using hx)
    exact ⟨y, hy, hv⟩
  · have := VR.ptr (m := m.add n ⟨w.heap.size, 0, v'.cells.size, i.size, false⟩) (off := 0) (Map.add_self m n ⟨w.heap.size, 0, v'.cells.size, i.size, false⟩) rfl
    simpa using this
omit hT in
theorem fill_size {place : Nat → Option (Nat × Nat)} : ∀ (parts : List (Nat × Value)) (cells r : Array Value), Instr.fill place cells parts = some r → r.size = cells.size := by
  intro parts
  induction parts with
  | nil => intro cells r h; simp only [Instr.fill] at h; cases h; rfl
  | cons p parts ih =>
    intro cells r h
    obtain ⟨i, v⟩ := p
    simp only [Instr.fill] at h
    split at h
    · cases h
    · split at h
      · cases h
      · rw [ih _ _ h]
        rename_i off size _ _
        have : ∀ (l : List (Value × Nat)) (cs : Array Value), (l.foldl (fun cs (p : Value × Nat) => cs.setIfInBounds (off + p.2) p.1) cs).size = cs.size := by
          intro l
          induction l with
          | nil => intro cs; rfl
          | cons x l ih => intro cs; simp only [List.foldl_cons, ih, Array.size_setIfInBounds]
        have h2 := this v.cells.zipIdx.toList cells
        rw [Array.foldl_toList] at h2
        exact h2
omit hT in
theorem places_run (g : Field → Sem (Nat × Nat)) (hg : ∀ f n, T.size f.type = some n → (g f).run P w = .ok (f.offset, n) w) : ∀ (l : List Field) (ps : List (Nat × Nat)), places T l = some ps → (l.mapM g).run P w = .ok ps w := by
  intro l
  induction l with
  | nil => intro ps h; simp [places] at h; subst h; simp
  | cons f l ih =>
    intro ps h
    simp only [places] at h
    split at h
    · rename_i n l' hn hl
      cases h
      simp only [List.mapM_cons, Sem.run_bind, hg f n hn, ih _ hl, Result.andThen_ok, Sem.run_pure]
    · cases h
theorem abuild_sound {t : TypeId} {parts parts' : List (Nat × Value)} {v : Value} (h : abuild T t parts = some v) (hp : PR m parts parts') :
    ∃ v', (Instr.build t parts'.toArray).run P w = .ok v' w ∧ VR m v v' := by
  unfold abuild at h
  split at h
  · rename_i fields z hd hz
    cases hc : closed z
    · rw [hc] at h; cases h
    rw [hc] at h
    simp only [cond_true] at h
    obtain ⟨i, h1, h2, h3, h4⟩ := hT.zero t z hz
    split at h
    · rename_i ps hps
      split at h
      · rename_i cs hcs
        cases h
        obtain ⟨r', hr', hv⟩ := fill_sound _ parts' _ z.cells _ hcs (closed_cells hc h4) hp
        refine ⟨.agg r', ?_, VRs.agg hv⟩
        have hm' : ∀ g : Field → Sem (Nat × Nat), (∀ f n, T.size f.type = some n → (g f).run P w = .ok (f.offset, n) w) → (fields.mapM g).run P w = .ok ps.toArray w := fun g hg => by
          rw [Array.mapM_eq_mapM_toList]
          simp only [map_eq_pure_bind, Sem.run_bind, places_run g hg _ _ hps, Result.andThen_ok, Sem.run_pure]
        unfold Instr.build
        simp only [Sem.run_bind, run_zero hT hz, Result.andThen_ok, run_under hT hd]
        rw [hm' _ (fun f n hn => by simp [run_size hT hn])]
        simp [hr']
      · cases h
    · cases h
  · rename_i n e z hd hz
    cases hc : closed z
    · rw [hc] at h; cases h
    rw [hc] at h
    simp only [cond_true] at h
    obtain ⟨i, h1, h2, h3, h4⟩ := hT.zero t z hz
    split at h
    · rename_i size hn
      split at h
      · rename_i cs hcs
        cases h
        obtain ⟨r', hr', hv⟩ := fill_sound _ parts' _ z.cells _ hcs (closed_cells hc h4) hp
        refine ⟨.agg r', ?_, VRs.agg hv⟩
        simp [Instr.build, run_zero hT hz, run_under hT hd, run_size hT hn, hr']
      · cases h
    · cases h
  · cases h
omit hT in
theorem plain_all_zeros {z : List Value} (h : z.all plain = true) (n : Nat) : (zerosOf z n).all plain = true := by
  unfold zerosOf
  split
  · simp at h
    simp [h]
  · simp only [List.all_eq_true, List.mem_flatten, List.mem_replicate] at *
    rintro x ⟨l, ⟨_, rfl⟩, hx⟩
    exact h x hx
omit hT in
theorem closed_plain {z : Value} (hz : closed z = true) (h1 : z.cells.all (·.oneCell') = true) : z.cells.toList.all plain = true ∨ ∃ f, z = .func f #[] #[] := by
  cases z <;> simp only [closed] at hz
  case agg cs => exact .inl hz
  case tuple cs => simp [Value.cells, Value.oneCell'] at h1
  case func f a c =>
    simp only [Bool.and_eq_true, List.isEmpty_iff, Array.toList_eq_nil_iff] at hz
    obtain ⟨rfl, rfl⟩ := hz
    exact .inr ⟨f, rfl⟩
  all_goals exact .inl (by simpa [Value.cells] using hz)
omit hT in
theorem zeros_VRs {z : Value} (hz : closed z = true) (h1 : z.cells.all (·.oneCell') = true) (n : Nat) : VRs m (zerosOf z.cells.toList n) (zerosOf z.cells.toList n) := by
  rcases closed_plain hz h1 with h | ⟨f, rfl⟩
  · exact VRs.of_closed (plain_all_zeros h n)
  · simp only [Value.cells, zerosOf]
    refine ⟨rfl, fun i x hx => ⟨x, hx, ?_⟩⟩
    have := List.mem_of_getElem? hx
    simp at this
    rw [this.2]
    exact VR.of_closed (by simp [closed])
theorem abuildSlice_mk (w : World) {t : TypeId} {len : Nat} {parts parts' : List (Nat × Value)} {v : Value} {H' : Heap} (h : abuildSlice T t len parts H = some (v, H')) (hp : PR m parts parts') :
    ∃ ob, H' = H.push ob ∧ Mk P m H.n w ((Instr.buildSlice t len parts'.toArray).run P w) v ob := by
  unfold abuildSlice at h
  split at h
  · rename_i e hd
    split at h
    · rename_i s z hn hz
      cases hc : ((len * (s + 1)).ble 16777216 && closed z && z.cells.size.beq (s + 1))
      · rw [hc] at h; cases h
      rw [hc] at h
      simp only [cond_true] at h
      simp only [Bool.and_eq_true, Nat.ble_eq, Nat.beq_eq] at hc
      obtain ⟨⟨hle, hcl⟩, hzs⟩ := hc
      split at h
      · rename_i cs hcs
        cases h
        obtain ⟨i, h1, h2, h3, h4⟩ := hT.zero e z hz
        obtain ⟨i', h5, h6⟩ := hT.size e _ hn
        rw [h1] at h5
        cases h5
        obtain ⟨r', hr', hv⟩ := fill_sound _ parts' _ (zerosOf z.cells.toList len).toArray _ hcs (by simpa using zeros_VRs hcl h4 len) hp
        have hmk : (Array.range (len * i.size)).map (z.cells[· % z.cells.size]!) = (zerosOf z.cells.toList len).toArray := by
          have := madeCells_eq (z := z.cells) (by omega) len
          rw [h3] at this
          apply Array.ext'
          rw [← this]
          simp [madeCells, h3]
        have hb1 : (⟨cs.toList, e, false⟩ : Ob).cells.length ≤ r'.size := by have := hv.1; simp at this ⊢; omega
        have hb2 : ∀ (k : Nat) (x : Value), (⟨cs.toList, e, false⟩ : Ob).cells[k]? = some x → ∃ y, r'[k]? = some y ∧ VR m x y := fun k x hx => by
          obtain ⟨y, hy, hvy⟩ := hv.2 k x hx
          exact ⟨y, by simpa using hy, hvy⟩
        by_cases hpos : len * i.size = 0
        · have hl0 : len = 0 := by
            rcases Nat.mul_eq_zero.1 hpos with h | h
            · exact h
            · omega
          subst hl0
          refine ⟨_, rfl, _, r', i, ?_, h1, rfl, hb1, hb2, .slice (Map.add_self _ _ _) rfl (.inl ⟨by decide, rfl, rfl⟩)⟩
          have hz0 : zerosOf z.cells.toList 0 = [] := by unfold zerosOf; split <;> simp
          rw [hz0] at hr'
          have hr2 : Instr.fill (fun i => some (i * (s + 1), s + 1)) #[] parts' = some r' := hr'
          have hr3 : ∀ f : Nat → Value, Instr.fill (fun i => some (i * (s + 1), s + 1)) ((Array.range 0).map f) parts' = some r' := fun f => by rw [show (Array.range 0).map f = #[] by simp [Array.range_zero']]; exact hr2
          simp [Instr.buildSlice, run_under hT hd, run_size hT hn, hr3, newRow]
        · refine ⟨_, rfl, _, r', i, run_buildSlice w t e len parts'.toArray r' i z (hT.under _ _ hd) h1 h2 (by rw [show i.size = s + 1 from h6]; omega) hpos (by rw [hmk, h6]; exact hr'), h1, rfl, hb1, hb2, .slice (Map.add_self _ _ _) rfl (.inl ⟨?_, rfl, rfl⟩)⟩
          have h9 : len ≤ len * (s + 1) := Nat.le_mul_of_pos_right _ (by omega)
          exact Nat.lt_of_le_of_lt (Nat.le_trans h9 hle) (by decide)
      · cases h
    · cases h
  · cases h
theorem amakeSlice_mk (w : World) {t : TypeId} {l c l' c' v : Value} {H' : Heap} (h : amakeSlice T t l c H = some (v, H')) (hl : VR m l l') (hc : VR m c c') :
    ∃ ob, H' = H.push ob ∧ Mk P m H.n w ((Instr.makeSlice t l' c').run P w) v ob := by
  unfold amakeSlice at h
  split at h
  · rename_i e ln cn hd hln hcn
    split at h
    · rename_i by_ s z hb hn hz
      cases hk : (ln.ble cn && (by_ * cn).ble 140737488355328 && cn.ble 4611686018427387904 && closed z)
      · rw [hk] at h; cases h
      rw [hk] at h
      simp only [cond_true] at h
      cases h
      simp only [Bool.and_eq_true, Nat.ble_eq] at hk
      obtain ⟨⟨⟨hlc, hbc⟩, hc62⟩, hcl⟩ := hk
      have hl2 : ∃ kl, l = .int kl (ln : Int) := by
        unfold nats at hln
        split at hln
        · cases hln; exact ⟨_, rfl⟩
        · cases hln
      have hc2 : ∃ kc, c = .int kc (cn : Int) := by
        unfold nats at hcn
        split at hcn
        · cases hcn; exact ⟨_, rfl⟩
        · cases hcn
      obtain ⟨kl, rfl⟩ := hl2
      obtain ⟨kc, rfl⟩ := hc2
      rw [hl.plain_eq rfl, hc.plain_eq rfl]
      obtain ⟨i, h1, h2, h3, h4⟩ := hT.zero e z hz
      obtain ⟨i', h5, h6⟩ := hT.size e _ hn
      rw [h1] at h5
      cases h5
      obtain ⟨i', h7, h8⟩ := hT.bytes e _ hb
      rw [h1] at h7
      cases h7
      have hmk := madeCells_eq (z := z.cells) (by omega) cn
      rw [h3] at hmk
      have hv := zeros_VRs (m := m) hcl h4 cn
      have hb1 : (⟨zerosOf z.cells.toList cn, e, false⟩ : Ob).cells.length ≤ (madeCells z.cells (cn * i.size)).size := by show (zerosOf z.cells.toList cn).length ≤ _; rw [← hmk, Array.length_toList]; exact Nat.le_refl _
      have hb2 : ∀ (k : Nat) (x : Value), (⟨zerosOf z.cells.toList cn, e, false⟩ : Ob).cells[k]? = some x → ∃ y, (madeCells z.cells (cn * i.size))[k]? = some y ∧ VR m x y := fun k x hx => by
        obtain ⟨y, hy, hvy⟩ := hv.2 k x hx
        rw [← hmk] at hy
        exact ⟨y, by simpa using hy, hvy⟩
      have h10 : ((by_ * cn : Nat) : Int) ≤ ((140737488355328 : Nat) : Int) := Int.ofNat_le.2 hbc
      rw [Int.natCast_mul] at h10
      have hrun := run_make (P := P) w t e i z (hT.under _ _ hd) h1 h2 kl kc ln cn (by omega) (by omega) (by rw [h8]; omega) (by omega)
      simp only [Int.toNat_natCast] at hrun
      exact ⟨_, rfl, _, _, i, hrun, h1, rfl, hb1, hb2, .slice (Map.add_self _ _ _) rfl (.inl ⟨by unfold unk; omega, rfl, rfl⟩)⟩
    · cases h
  · cases h
end
end Go.Ev
