/- Maps, and walks over them: what the operations do. -/
import Derived.Test.YthmcpmdohmfeiaaGreatDoorEvIm
import Derived.Maps.RangeRun
namespace Go.Ev
open Go
set_option linter.unusedVariables false
set_option linter.unusedSimpArgs false
theorem rows_set {m : Map} {l : List Row} {es : Array MapEntry} (hl : l.length = es.size) (h : RowsOk m l es) {j : Nat} {e : MapEntry} (he : es[j]? = some e) {k v v' : Value} {n : Nat} (hk : closed k = true) (hv : VR m v v') (hn : e.born = n) (f : MapEntry → MapEntry) (hf : f e = ⟨k, v', e.born⟩) : RowsOk m (l.set j (k, v, n)) (es.modify j f) := by
  intro i x hx
  rw [Array.getElem?_modify]
  rw [List.getElem?_set] at hx
  split at hx
  · rename_i hij
    subst hij
    split at hx
    · cases hx
      exact ⟨f e, by simp [he], by rw [hf]; exact ⟨hk, rfl⟩, by rw [hf]; exact hv, by rw [hf]; exact hn⟩
    · cases hx
  · rename_i hij
    rw [if_neg hij]
    exact h i x hx
theorem rows_push {m : Map} {l : List Row} {es : Array MapEntry} (hl : l.length = es.size) (h : RowsOk m l es) {k v v' : Value} {c : Nat} (hk : closed k = true) (hv : VR m v v') : RowsOk m (l ++ [(k, v, c)]) (es.push ⟨k, v', c⟩) := by
  intro i x hx
  rw [List.getElem?_append] at hx
  split at hx
  · rename_i hlt
    obtain ⟨e, a1, a2⟩ := h i x hx
    exact ⟨e, by rw [Array.getElem?_push_lt (by omega)]; exact (Array.getElem?_eq_some_iff.1 a1).2 ▸ rfl, a2⟩
  · rename_i hge
    have hil : i = l.length := by
      have := (List.getElem?_eq_some_iff.1 hx).1
      simp at this; omega
    subst hil
    simp at hx; subst hx
    exact ⟨⟨k, v', c⟩, by rw [hl]; simp, ⟨hk, rfl⟩, hv, rfl⟩
theorem erase_toList (es : Array MapEntry) (j : Nat) : (es.eraseIdxIfInBounds j).toList = es.toList.eraseIdx j := by
  unfold Array.eraseIdxIfInBounds
  split
  · simp
  · rename_i hj
    rw [List.eraseIdx_of_length_le (by simp; omega)]
theorem rows_erase {m : Map} {l : List Row} {es : Array MapEntry} (h : RowsOk m l es) (j : Nat) : RowsOk m (l.eraseIdx j) (es.eraseIdxIfInBounds j) := by
  intro i x hx
  rw [← Array.getElem?_toList, erase_toList, List.getElem?_eraseIdx]
  rw [List.getElem?_eraseIdx] at hx
  split
  · rename_i hij
    rw [if_pos hij] at hx
    rw [Array.getElem?_toList]; exact h i x hx
  · rename_i hij
    rw [if_neg hij] at hx
    rw [Array.getElem?_toList]; exact h _ x hx
/-- Rows and entries, one behind the other. -/
def Par (m : Map) : List Row → List MapEntry → Prop
  | [], [] => True
  | x :: l, e :: es => ((closed x.1 = true ∧ e.key = x.1) ∧ VR m x.2.1 e.val ∧ e.born = x.2.2) ∧ Par m l es
  | _, _ => False
theorem Par.of {m : Map} : ∀ {l : List Row} {es : List MapEntry}, l.length = es.length → (∀ (i : Nat) (x : Row), l[i]? = some x → ∃ e : MapEntry, es[i]? = some e ∧ (closed x.1 = true ∧ e.key = x.1) ∧ VR m x.2.1 e.val ∧ e.born = x.2.2) → Par m l es
  | [], [], _, _ => True.intro
  | x :: l, [], h, _ => by simp at h
  | [], e :: es, h, _ => by simp at h
  | x :: l, e :: es, hl, h => by
    obtain ⟨e', he, h1⟩ := h 0 x rfl
    simp at he; subst he
    exact ⟨h1, Par.of (by simpa using hl) fun i z hz => by have := h (i + 1) z (by simpa using hz); simpa using this⟩
theorem Par.filter {m : Map} (p : Nat → Bool) : ∀ {l : List Row} {es : List MapEntry}, Par m l es → Par m (l.filter fun x => p x.2.2) (es.filter fun e => p e.born)
  | [], [], _ => True.intro
  | x :: l, [], h => h.elim
  | [], e :: es, h => h.elim
  | x :: l, e :: es, ⟨h1, h2⟩ => by
    rw [List.filter_cons, List.filter_cons, h1.2.2]
    cases p x.2.2
    · exact Par.filter p h2
    · exact ⟨h1, Par.filter p h2⟩
theorem Par.all {m : Map} (p : Nat → Bool) : ∀ {l : List Row} {es : List MapEntry}, Par m l es → (l.all fun x => p x.2.2) = true → ∀ e ∈ es, p e.born = true
  | [], [], _, _ => fun e he => by cases he
  | x :: l, [], h, _ => h.elim
  | [], e :: es, h, _ => h.elim
  | x :: l, e :: es, ⟨h1, h2⟩, h => fun e' he => by
    simp only [List.all_cons, Bool.and_eq_true] at h
    rcases List.mem_cons.1 he with rfl | he
    · rw [h1.2.2]; exact h.1
    · exact Par.all p h2 h.2 e' he
theorem Par.born {m : Map} (s : Nat) : ∀ {l : List Row} {es : List MapEntry} (n0 : Nat), Par m l es → ∀ j y, mborn s l n0 = some (j, y) → ∃ i e, j = n0 + i ∧ es[i]? = some e ∧ l[i]? = some y ∧ e.born = s ∧ (closed y.1 = true ∧ e.key = y.1) ∧ VR m y.2.1 e.val ∧ y.2.2 = s ∧ (∀ q : MapEntry → Bool, (∀ e, q e = (e.born == s)) → es.find? q = some e ∧ es.findIdx? q = some i)
  | [], [], n0, _, j, y, h => by cases h
  | x :: l, [], n0, h, _, _, _ => h.elim
  | [], e :: es, n0, h, _, _, _ => h.elim
  | x :: l, e :: es, n0, ⟨h1, h2⟩, j, y, h => by
    unfold mborn at h
    cases hb : Nat.beq x.2.2 s
    · rw [hb] at h
      obtain ⟨i, e', k1, k2, k3, k4, k5, k6, k7, k8⟩ := Par.born s (n0 + 1) h2 j y h
      have hne : (e.born == s) = false := by rw [h1.2.2]; exact beq_eq_false_iff_ne.2 fun q => by rw [q] at hb; simp at hb
      refine ⟨i + 1, e', by omega, by simpa using k2, by simpa using k3, k4, k5, k6, k7, fun q hq => ?_⟩
      have := k8 q hq
      rw [List.find?_cons, List.findIdx?_cons, hq e, hne]
      exact ⟨this.1, by simp [this.2]⟩
    · rw [hb] at h
      cases h
      have hs := Nat.eq_of_beq_eq_true hb
      have hne : (e.born == s) = true := by rw [h1.2.2, hs]; simp
      refine ⟨0, e, rfl, rfl, rfl, h1.2.2.trans hs, h1.1, h1.2.1, hs, fun q hq => ?_⟩
      rw [List.find?_cons, List.findIdx?_cons, hq e, hne]
      exact ⟨rfl, rfl⟩
theorem amap_enter {P : Program} {T : Tab} {tm : Tr Value} {o : Oper} {H H' : Heap} {f : FuncId} {a : Array Value} (h : amap P T tm o H = some (.enter f a, H')) : False := by
  have e1 : ∀ {u : Option Value}, val u H = some (.enter f a, H') → False := fun h => by unfold val at h; split at h <;> cases h
  have e2 : ∀ {u : Option (Value × Heap)}, val2 u = some (.enter f a, H') → False := fun h => by unfold val2 at h; split at h <;> cases h
  have e3 : ∀ {u : Option Heap}, skp u = some (.enter f a, H') → False := fun h => by unfold skp at h; split at h <;> cases h
  unfold amap at h
  split at h
  · cases h
  all_goals first | (cases h; done) | (split at h <;> first | exact e1 h | exact e2 h | exact e3 h | cases h)
theorem amap_act {P : Program} {T : Tab} {tm : Tr Value} {o : Oper} {H H' : Heap} {r : Res} (h : amap P T tm o H = some (r, H')) : cls T o.op = .act := by
  unfold amap at h
  split at h
  case h_9 => cases h
  all_goals (rename_i hop; rw [hop]; rfl)
section
variable {P : Program} {T : Tab} (hT : TabOk P T) {m : Map} {H : Heap} {w : World}
theorem kts_spec {t kt et : TypeId} (h : kts T t = some (kt, et)) : T.under t = some (.map kt et) := by
  unfold kts at h
  split at h
  · rename_i q; cases h; exact q
  · cases h
theorem mapPut_sound [Bs] (hr : Rep P m H w) {b c : Nat} {L : Loc} {o : Ob} {es : Array MapEntry} (hb : m b = some L) (hmp : L.mp = true) (ho : H.get b = some o) (hro : o.ro = false) (g1 : w.heap[L.c]? = some (.map es c)) (es' : Array MapEntry) (cl' : Nat) (l' : List Row) (hl : l'.length = es'.size) (hrow : RowsOk m l' es') :
    Rep P m (H.put b ⟨mlay cl' l', o.elem, false⟩) { w with heap := w.heap.setIfInBounds L.c (.map es' cl') } ∧ Fr m H w m (H.put b ⟨mlay cl' l', o.elem, false⟩) { w with heap := w.heap.setIfInBounds L.c (.map es' cl') } := by
  have hp := put_any (w' := { w with heap := w.heap.setIfInBounds L.c (.map es' cl') }) hr.toRep0 hb ho hro (mlay cl' l') (fun c hc => (MapKept.heap_set g1).2 c hc) rfl rfl rfl (by simp)
    (.inr ⟨hmp, rfl, .inl ⟨es', cl', l', (MapKept.heap_set g1).1, rfl, hl, hrow⟩⟩)
  exact ⟨hp.1.full hp.2 hr, hp.2⟩
theorem stays_run {k k' : Value} (h : Instr.sameBits 10000 k k' = true) : (Instr.keyThatStays k k').run P w = .ok k' w := by
  unfold Instr.keyThatStays
  rw [if_pos h]; rfl
include hT
theorem zero_run {t : TypeId} {z : Value} (h : T.zero t = some z) : (zeroValue t).run P w = .ok z w := by
  obtain ⟨i0, z1, z2, z3, z4⟩ := hT.zero t z h
  simp [Go.zeroValue, typeInfo, z1, z2]
theorem alookup_sound {t : TypeId} {ok : Bool} {u u' i i' r : Value} (h : alookup P T t ok u i H = some r) (hr : Rep0 P m H w) (hu : VR m u u') (hi : VR m i i') :
    ∃ r', (Instr.lookup t u' i' ok).run P w = .ok r' w ∧ VR m r r' := by
  unfold alookup at h
  split at h
  · rename_i kt et b o c l hk hm
    cases hmk : mkey P kt i
    · rw [hmk] at h; cases h
    · rw [hmk] at h
      simp only [cond_true] at h
      obtain ⟨hcl, q, hq⟩ := mkey_spec hmk
      obtain rfl := hi.closed_eq hcl
      obtain ⟨L, es, rfl, hb, hmp, ho, hro, g1, g2, g3⟩ := mapAt_sound hm hr hu
      split at h
      · rename_i j v n z hf hz
        rcases findKey_sound w hmk g2 g3 hf with ⟨k1, _⟩ | ⟨j', v', n', e, k1, k2, k3, k4, k5, k6⟩
        · cases k1
        · cases k1
          cases h
          refine ⟨if ok then .tuple #[e.val, .bool true] else e.val, ?_, ?_⟩
          · cases ok <;> simp [Instr.lookup, run_under hT (kts_spec hk), MapKept.run_getObj_map g1, checkKey_run hq, k6, Result.andThen]
          · cases ok
            · exact k3
            · exact VRs.tuple2 (.cons k3 (.cons (.same rfl) .nil))
      · rename_i z hf hz
        rcases findKey_sound w hmk g2 g3 hf with ⟨_, k2⟩ | ⟨j', v', n', e, k1, _⟩
        · cases hc : closed z
          · rw [hc] at h; cases h
          · rw [hc] at h
            cases h
            refine ⟨if ok then .tuple #[z, .bool false] else z, ?_, ?_⟩
            · cases ok <;> simp [Instr.lookup, run_under hT (kts_spec hk), MapKept.run_getObj_map g1, checkKey_run hq, k2, zero_run hT hz, Result.andThen]
            · cases ok
              · exact VR.of_closed hc
              · exact VRs.tuple2 (.cons (VR.of_closed hc) (.cons (.same rfl) .nil))
        · cases k1
      · cases h
  · cases h
theorem aupdate_sound [Bs] {t : TypeId} {u u' i i' z z' : Value} {H' : Heap} (h : aupdate P T t u i z H = some H') (hr : Rep P m H w) (hu : VR m u u') (hi : VR m i i') (hz : VR m z z') :
    ∃ w', (Instr.mapUpdate t u' i' z').run P w = .ok () w' ∧ Rep P m H' w' ∧ Fr m H w m H' w' := by
  unfold aupdate at h
  split at h
  · rename_i kt et b o c l hk hm
    cases hmk : o.ro || !mkey P kt i
    · rw [hmk] at h
      simp only [cond_false] at h
      simp only [Bool.or_eq_false_iff, Bool.not_eq_false'] at hmk
      obtain ⟨hcl, q, hq⟩ := mkey_spec hmk.2
      obtain rfl := hi.closed_eq hcl
      obtain ⟨L, es, rfl, hb, hmp, ho, hro, g1, g2, g3⟩ := mapAt_sound hm hr.toRep0 hu
      split at h
      · rename_i j v n hf
        cases h
        rcases findKey_sound w hmk.2 g2 g3 hf with ⟨k1, _⟩ | ⟨j', v', n', e, k1, k2, k3, k4, k5, k6⟩
        · cases k1
        · cases k1
          exact ⟨_, by simp [Instr.mapUpdate, run_under hT (kts_spec hk), MapKept.run_getObj_map g1, checkKey_run hq, k6, k2, stays_run k5, MapKept.run_setObj_map _ g1, Result.andThen],
            mapPut_sound hr hb hmp ho hro g1 _ c _ (by simp [g2]) (rows_set g2 g3 k2 hcl hz k4 (fun e => { e with key := i', val := z' }) rfl)⟩
      · rename_i hf
        cases h
        rcases findKey_sound w hmk.2 g2 g3 hf with ⟨_, k2⟩ | ⟨j', v', n', e, k1, _⟩
        · exact ⟨_, by simp [Instr.mapUpdate, run_under hT (kts_spec hk), MapKept.run_getObj_map g1, checkKey_run hq, k2, MapKept.run_setObj_map _ g1, Result.andThen],
            mapPut_sound hr hb hmp ho hro g1 _ (c + 1) _ (by simp [g2]) (rows_push g2 g3 hcl hz)⟩
        · cases k1
      · cases h
    · rw [hmk] at h; cases h
  · cases h
theorem aentry_sound [Bs] {t : TypeId} {u u' i i' r : Value} {H' : Heap} (h : aentry P T t u i H = some (r, H')) (hr : Rep P m H w) (hu : VR m u u') (hi : VR m i i') :
    ∃ r' w', (Instr.mapEntry t u' i').run P w = .ok r' w' ∧ VR m r r' ∧ Rep P m H' w' ∧ Fr m H w m H' w' := by
  unfold aentry at h
  split at h
  · rename_i kt et b o c l hk hm
    cases hmk : o.ro || !mkey P kt i
    · rw [hmk] at h
      simp only [cond_false] at h
      simp only [Bool.or_eq_false_iff, Bool.not_eq_false'] at hmk
      obtain ⟨hcl, q, hq⟩ := mkey_spec hmk.2
      obtain rfl := hi.closed_eq hcl
      obtain ⟨L, es, rfl, hb, hmp, ho, hro, g1, g2, g3⟩ := mapAt_sound hm hr.toRep0 hu
      split at h
      · rename_i j v n z hf hz
        cases h
        rcases findKey_sound w hmk.2 g2 g3 hf with ⟨k1, _⟩ | ⟨j', v', n', e, k1, k2, k3, k4, k5, k6⟩
        · cases k1
        · cases k1
          refine ⟨.tuple #[e.val, .int .i64 (e.born : Nat)], _, by simp [Instr.mapEntry, run_under hT (kts_spec hk), MapKept.run_getObj_map g1, checkKey_run hq, k6, k2, stays_run k5, MapKept.run_setObj_map _ g1, Result.andThen, goInt], ?_,
            mapPut_sound hr hb hmp ho hro g1 _ c _ (by simp [g2]) (rows_set g2 g3 k2 hcl k3 k4 (fun e => { e with key := i' }) rfl)⟩
          rw [k4]
          exact VRs.tuple2 (.cons k3 (.cons (.same rfl) .nil))
      · rename_i z hf hz
        cases hc : closed z
        · rw [hc] at h; cases h
        · rw [hc] at h
          cases h
          rcases findKey_sound w hmk.2 g2 g3 hf with ⟨_, k2⟩ | ⟨j', v', n', e, k1, _⟩
          · exact ⟨.tuple #[z, .int .i64 (c : Nat)], _, by simp [Instr.mapEntry, run_under hT (kts_spec hk), MapKept.run_getObj_map g1, checkKey_run hq, k2, zero_run hT hz, MapKept.run_setObj_map _ g1, Result.andThen, goInt],
              VRs.tuple2 (.cons (VR.of_closed hc) (.cons (.same rfl) .nil)), mapPut_sound hr hb hmp ho hro g1 _ (c + 1) _ (by simp [g2]) (rows_push g2 g3 hcl (VR.of_closed hc))⟩
          · cases k1
      · cases h
    · rw [hmk] at h; cases h
  · cases h
theorem adelete_sound [Bs] {t ty : TypeId} {u u' i i' : Value} {H' : Heap} {kt2 : TypeId} (h : adelete P T t u i H = some H') (hr : Rep P m H w) (hu : VR m u u') (hi : VR m i i') :
    ∃ w', (Builtin.delete_ #[t, kt2] ty #[u', i']).run P w = .ok (.tuple #[]) w' ∧ Rep P m H' w' ∧ Fr m H w m H' w' := by
  unfold adelete at h
  split at h
  · rename_i kt et b o c l hk hm
    cases hmk : o.ro || !mkey P kt i
    · rw [hmk] at h
      simp only [cond_false] at h
      simp only [Bool.or_eq_false_iff, Bool.not_eq_false'] at hmk
      obtain ⟨hcl, q, hq⟩ := mkey_spec hmk.2
      obtain rfl := hi.closed_eq hcl
      obtain ⟨L, es, rfl, hb, hmp, ho, hro, g1, g2, g3⟩ := mapAt_sound hm hr.toRep0 hu
      split at h
      · rename_i j v n hf
        cases h
        rcases findKey_sound w hmk.2 g2 g3 hf with ⟨k1, _⟩ | ⟨j', v', n', e, k1, k2, k3, k4, k5, k6⟩
        · cases k1
        · cases k1
          have hj := (Array.getElem?_eq_some_iff.1 k2).1
          have hlen : (l.eraseIdx j).length = (es.eraseIdxIfInBounds j).size := by
            rw [← Array.length_toList, erase_toList, List.length_eraseIdx, List.length_eraseIdx, g2, Array.length_toList]
          exact ⟨_, by simp [Builtin.delete_, run_under hT (kts_spec hk), MapKept.run_getObj_map g1, checkKey_run hq, k6, MapKept.run_setObj_map _ g1, Result.andThen],
            mapPut_sound hr hb hmp ho hro g1 _ c _ hlen (rows_erase g3 j)⟩
      · rename_i hf
        cases h
        rcases findKey_sound w hmk.2 g2 g3 hf with ⟨_, k2⟩ | ⟨j', v', n', e, k1, _⟩
        · exact ⟨_, by simp [Builtin.delete_, run_under hT (kts_spec hk), MapKept.run_getObj_map g1, checkKey_run hq, k2, MapKept.run_setObj_map _ g1, Result.andThen],
            mapPut_sound hr hb hmp ho hro g1 es c l g2 g3⟩
        · cases k1
      · cases h
    · rw [hmk] at h; cases h
  · cases h
omit hT
theorem aestore_sound [Bs] {t : TypeId} {u u' s s' z z' : Value} {H' : Heap} (h : aestore u s z H = some H') (hr : Rep P m H w) (hu : VR m u u') (hs : VR m s s') (hz : VR m z z') :
    ∃ w', (Instr.entryStore t u' s' z').run P w = .ok () w' ∧ Rep P m H' w' ∧ Fr m H w m H' w' := by
  unfold aestore at h
  split at h
  · rename_i b o c l k n hm
    cases hmk : o.ro
    · rw [hmk] at h
      simp only [cond_false] at h
      obtain ⟨L, es, rfl, hb, hmp, ho, hro, g1, g2, g3⟩ := mapAt_sound hm hr.toRep0 hu
      obtain rfl := hs.closed_eq rfl
      split at h
      · rename_i j y hf
        cases h
        obtain ⟨i, e, k1, k2, k3, k4, k5, k6, k7, k8⟩ := Par.born n 0 (Par.of (m := m) (l := l) (es := es.toList) (by simpa using g2) (fun i x hx => by simpa using g3 i x hx)) j y hf
        have hidx : es.findIdx? (fun e => (e.born : Int) == Int.ofNat n) = some i := by
          rw [show es = es.toList.toArray by simp, List.findIdx?_toArray]
          exact (k8 (fun e => (e.born : Int) == Int.ofNat n) fun e => by
            show ((e.born : Int) == (n : Int)) = _
            rw [Bool.eq_iff_iff]; simp only [beq_iff_eq]; omega).2
        have hij : j = i := by omega
        subst hij
        have hint : (asInt (.int k (Int.ofNat n))).run P w = .ok (Int.ofNat n) w := rfl
        refine ⟨_, by simp only [Instr.entryStore, Sem.run_bind, MapKept.run_getObj_map g1, hint, hidx, Result.andThen]; rw [MapKept.run_setObj_map _ g1], mapPut_sound hr hb hmp ho hro g1 _ c _ (by simp [g2]) ?_⟩
        exact rows_set g2 g3 (by simpa using k2) k5.1 hz (k4.trans k7.symm) (fun e => { e with val := z' }) (by rw [← k5.2])
      · cases h
    · rw [hmk] at h; cases h
  · cases h
theorem ainow_sound {u u' r : Value} (h : ainow u H = some r) (hr : Rep0 P m H w) (hu : VR m u u') :
    ∃ r', (Instr.entry u').run P w = .ok r' w ∧ VR m r r' := by
  unfold ainow at h
  split at h
  · rename_i i o b s q seen hi
    obtain ⟨L, M, rfl, h1, h2, h3, h4, h5, h6, h7⟩ := iterAt_sound hi hr hu
    split at h
    · rename_i b' o' c l s' hm hl
      cases hq : Nat.beq c q
      · rw [hq] at h; cases h
      · rw [hq] at h
        simp only [cond_true] at h
        have hq := Nat.eq_of_beq_eq_true hq
        subst hq
        split at h
        · rename_i j y hf
          cases h
          obtain ⟨e1, e2, e3⟩ := mapAt_spec hm
          cases e1
          obtain ⟨es, g0, g1, g2, g3⟩ := mapBlk_sound hr h5 h6 e2 e3
          obtain ⟨i2, e, k1, k2, k3, k4, k5, k6, k7, k8⟩ := Par.born s' 0 (Par.of (m := m) (l := l) (es := es.toList) (by simpa using g2) (fun i x hx => by simpa using g3 i x hx)) j y hf
          have k9 := (k8 (fun e => e.born == s') fun e => rfl).1
          have hfd : es.find? (fun e => e.born == s') = some e := by rw [← Array.find?_toList]; exact k9
          have hback : seen.toArray.back? = some s' := by rw [List.back?_toArray]; exact hl
          refine ⟨.tuple #[e.key, e.val], ?_, ?_⟩
          · simp only [Instr.entry, getObj, Sem.run_bind, Sem.run, h7, g1, Result.andThen, hback, bne_self_eq_false, Bool.false_eq_true, if_false, hfd]
            rfl
          · rw [k5.2]
            exact VRs.tuple2 (.cons (VR.of_closed k5.1) (.cons k6 .nil))
        · cases h
    · cases h
  · cases h
theorem arange_sound [Bs] (hT : TabOk P T) {t : TypeId} {u u' r : Value} {H' : Heap} (h : arange T t u H = some (r, H')) (hr : Rep P m H w) (hu : VR m u u') :
    ∃ r' w' m', (Instr.range t u').run P w = .ok r' w' ∧ VR m' r r' ∧ Rep P m' H' w' ∧ Fr m H w m' H' w' := by
  unfold arange at h
  split at h
  · rename_i kt b o c l hk hm
    cases h
    obtain ⟨L, es, rfl, hb, hmp, ho, hro, g1, g2, g3⟩ := mapAt_sound hm hr.toRep0 hu
    obtain ⟨kt, et⟩ := kt
    have hn : m H.n = none := by
      cases h : m H.n with
      | none => rfl
      | some L => exact absurd (hr.dom _ _ h) (by omega)
    have hp := push_any hr.toRep0 ⟨icells b c c [], t, false⟩ (.mapIter (some L.c) c #[] c) ⟨w.heap.size, 0, 0, 0, true⟩ rfl (.inr ⟨rfl, rfl, .inr ⟨b, L, c, c, [], Map.le_add hn _ _ hb, hmp, heap_alloc_new w _, rfl⟩⟩)
    exact ⟨.pointer (some ⟨w.heap.size, 0, none⟩), _, _, by simp [Instr.range, run_under hT (kts_spec hk), MapKept.run_getObj_map g1, newObj, Result.andThen]; rfl, .iter (Map.add_self _ _ _) rfl, hp.1.full hp.2 hr, hp.2⟩
  · cases h
theorem anext_sound [Bs] {u u' r : Value} {H' : Heap} {ty : TypeId} (h : anext u H = some (r, H')) (hr : Rep P m H w) (hu : VR m u u') :
    ∃ r' w', (Instr.next u' false ty).run P w = .ok r' w' ∧ VR m r r' ∧ Rep P m H' w' ∧ Fr m H w m H' w' := by
  unfold anext at h
  split at h
  · rename_i i io b since q seen hi
    obtain ⟨L, M, rfl, h1, h2, h3, h4, h5, h6, h7⟩ := iterAt_sound hi hr.toRep0 hu
    split at h
    · rename_i b' o' c l hm
      cases hb : (Nat.ble since q && l.all fun e => Nat.blt e.2.2 since)
      · rw [hb] at h; cases h
      · rw [hb] at h
        simp only [cond_true] at h
        simp only [Bool.and_eq_true, Nat.ble_eq] at hb
        obtain ⟨e1, e2, e3⟩ := mapAt_spec hm
        cases e1
        obtain ⟨es, g0, g1, g2, g3⟩ := mapBlk_sound hr.toRep0 h5 h6 e2 e3
        have hpar := Par.of (m := m) (l := l) (es := es.toList) (by simpa using g2) (fun i x hx => by simpa using g3 i x hx)
        have hold : ∀ x ∈ es.toList, x.born < since := fun x hx => by
          have := Par.all (fun n => Nat.blt n since) hpar hb.2 x hx
          exact Nat.le_of_ble_eq_true this
        have hfil := Par.filter (fun n => !seen.contains n) hpar
        have hleft : (leftOf es seen.toArray).toList = es.toList.filter fun e => !seen.contains e.born := by
          unfold leftOf; simp
        rw [← hleft] at hfil
        have run := run_next_at (P := P) w ty L.c M.c since q seen.toArray es c h7 g1 hold hb.1
        split at h
        · rename_i hf
          cases h
          rw [hf] at hfil
          have h0 : (leftOf es seen.toArray).toList = [] := by
            cases hq : (leftOf es seen.toArray).toList with
            | nil => rfl
            | cons a b => rw [hq] at hfil; exact hfil.elim
          rcases run with ⟨_, hrun⟩ | ⟨e, he, _⟩
          · exact ⟨_, w, hrun, VRs.tuple2 (.cons (.same rfl) .nil), hr, Fr.refl _ _ _⟩
          · rw [h0] at he; cases he
        · rename_i e hf
          cases h
          rw [hf] at hfil
          obtain ⟨e', h0, hp1, hp2, hp3⟩ : ∃ e', (leftOf es seen.toArray).toList = [e'] ∧ (closed e.1 = true ∧ e'.key = e.1) ∧ VR m e.2.1 e'.val ∧ e'.born = e.2.2 := by
            cases hq : (leftOf es seen.toArray).toList with
            | nil => rw [hq] at hfil; exact hfil.elim
            | cons a r =>
              rw [hq] at hfil
              cases r with
              | nil => exact ⟨a, rfl, hfil.1⟩
              | cons a2 r2 => exact hfil.2.elim
          rcases run with ⟨hz, _⟩ | ⟨e2', he, w1, hw1, hrun⟩
          · rw [← Array.length_toList, h0] at hz; cases hz
          · rw [h0] at he
            obtain rfl : e2' = e' := by simpa using he
            have hr1 : Rep P m H w1 := by rcases hw1 with rfl | rfl; exact hr; exact hr.drew _
            have h71 : w1.heap[L.c]? = some (.mapIter (some M.c) since seen.toArray q) := by rcases hw1 with rfl | rfl <;> exact h7
            have hlt : L.c < w1.heap.size := (Array.getElem?_eq_some_iff.1 h71).1
            have hp := put_any (w' := { w1 with heap := w1.heap.setIfInBounds L.c (.mapIter (some M.c) since (seen.toArray.push e2'.born) c) }) hr1.toRep0 h1 h3 h4 (icells b since c (seen ++ [e.2.2])) (fun c hc => by simp [Array.getElem?_setIfInBounds, Ne.symm hc]) rfl rfl rfl (by simp)
              (.inr ⟨h2, rfl, .inr ⟨b, M, since, c, seen ++ [e.2.2], h5, h6, by simp [Array.getElem?_setIfInBounds, hlt, hp3], rfl⟩⟩)
            refine ⟨_, _, hrun, ?_, hp.1.full hp.2 hr1, ?_⟩
            · rw [hp1.2]
              exact VRs.tuple2 (.cons (.same rfl) (.cons (VR.of_closed hp1.1) (.cons hp2 .nil)))
            · rcases hw1 with rfl | rfl
              · exact hp.2
              · exact Fr.drew _ hp.2
        · cases h
    · cases h
  · cases h
theorem aclear_sound [Bs] (hT : TabOk P T) {t ty e : TypeId} {A : Option Addr} {n c : Nat} {u' : Value} {H' : Heap} (h : aclear T t A n H = some H') (hu : T.under t = some (.slice e)) (hr : Rep P m H w) (hx : VR m (.slice A n c) u') :
    ∃ w', (Builtin.clear_ #[t] ty #[u']).run P w = .ok (.tuple #[]) w' ∧ Rep P m H' w' ∧ Fr m H w m H' w' := by
  unfold aclear at h
  split at h
  · cases h
    refine ⟨w, ?_, hr, Fr.refl _ _ _⟩
    cases hx with
    | same hp => cases A <;> simp [Builtin.clear_, run_under hT hu]
    | slice hm hmp hc => simp [Builtin.clear_, run_under hT hu]
  · rename_i n
    split at h
    · rename_i e' b off hu'
      rw [hu] at hu'; cases hu'
      split at h
      · rename_i z hz
        cases hcz : closed z
        · rw [hcz] at h; cases h
        · rw [hcz] at h
          simp only [cond_true] at h
          obtain ⟨i0, z1, z2, z3, z4⟩ := hT.zero _ z hz
          cases hx with
          | same hp => simp [plain] at hp
          | slice hm hmp hc =>
            rename_i q c' L
            obtain ⟨w', g1, g2, g3⟩ := aput_sound h hr hm hmp (zeros_VRs hcz z4 (n + 1))
            have hq : q = L.o + off := by
              rcases hc with ⟨_, _, h⟩ | ⟨_, _, _, h⟩
              · exact h
              · omega
            subst hq
            refine ⟨w', ?_, g2, g3⟩
            have hzc : 0 < z.cells.size ∨ z.cells.size = 0 := by omega
            have he : (Builtin.zeroCells z.cells (n + 1)).toList = zerosOf z.cells.toList (n + 1) := by
              rcases hzc with h0 | h0
              · exact madeCells_eq h0 (n + 1)
              · have hz0 : z.cells = #[] := Array.eq_empty_of_size_eq_zero h0
                rw [hz0]
                have e1 : zerosOf ([] : List Value) (n + 1) = [] := by
                  show (List.replicate (n + 1) ([] : List Value)).flatten = []
                  simp
                rw [e1]
                simp [Builtin.zeroCells]
            simp only [Builtin.clear_, Sem.run_bind, List.getElem?_toArray, List.getElem?_cons_zero, run_under hT hu, Result.andThen_ok, zero_run hT hz, he, g1, Sem.run_pure]
      · cases h
    · cases h
theorem mpush_sound [Bs] (hr : Rep P m H w) (t : TypeId) : Rep P (m.add H.n ⟨w.heap.size, 0, 0, 0, true⟩) (H.push ⟨mlay 0 [], t, false⟩) (w.alloc (.map #[] 0)) ∧ Fr m H w (m.add H.n ⟨w.heap.size, 0, 0, 0, true⟩) (H.push ⟨mlay 0 [], t, false⟩) (w.alloc (.map #[] 0)) := by
  have hp := push_any hr.toRep0 ⟨mlay 0 [], t, false⟩ (.map #[] 0) ⟨w.heap.size, 0, 0, 0, true⟩ rfl (.inr ⟨rfl, rfl, .inl ⟨#[], 0, [], heap_alloc_new w _, rfl, rfl, fun i x hx => by simp at hx⟩⟩)
  exact ⟨hp.1.full hp.2 hr, hp.2⟩
end
end Go.Ev
