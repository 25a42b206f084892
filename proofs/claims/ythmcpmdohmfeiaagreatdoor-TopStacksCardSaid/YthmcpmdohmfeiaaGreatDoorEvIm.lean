/- Maps, and walks over them. -/
import Derived.Test.YthmcpmdohmfeiaaGreatDoorEvH
import Derived.MapKept
import Derived.WideKeyRuns
namespace Go.Ev
open Go
set_option linter.unusedVariables false
set_option linter.unusedSimpArgs false
theorem VRs.tuple2 {m : Map} {xs ys : Array Value} (h : VRs m xs.toList ys.toList) : VR m (.tuple xs) (.tuple ys) := .tuple h.arr.1 h.arr.2
theorem mcells_cons (x : Row) (l : List Row) : mcells (x :: l) = x.1 :: x.2.1 :: .int .i64 (x.2.2 : Nat) :: mcells l := rfl
theorem mrows_spec : ∀ (cs : List Value) (l : List Row), mrows cs = some l → cs = mcells l := by
  intro cs
  induction cs using mrows.induct with
  | case1 => intro l h; simp [mrows] at h; subst h; rfl
  | case2 k v n r l' hl ih =>
    intro l h
    simp only [mrows, hl] at h
    cases h
    rw [mcells_cons, ← ih _ hl]; rfl
  | case3 k v n r hl ih =>
    intro l h
    simp only [mrows, hl] at h
    cases h
  | case4 cs h1 h2 =>
    intro l h
    rw [mrows] at h
    · cases h
    · exact h1
    · exact h2
theorem mrows_cells (l : List Row) : mrows (mcells l) = some l := by
  induction l with
  | nil => rfl
  | cons x l ih =>
    rw [mcells_cons]
    show mrows (x.1 :: x.2.1 :: .int .i64 (Int.ofNat x.2.2) :: mcells l) = _
    rw [mrows, ih]
theorem mparse_spec {cs : List Value} {c : Nat} {l : List Row} (h : mparse cs = some (c, l)) : cs = mlay c l := by
  unfold mparse at h
  split at h
  · split at h
    · rename_i l' hl
      cases h
      rw [mrows_spec _ _ hl]; rfl
    · cases h
  · cases h
theorem mparse_lay (c : Nat) (l : List Row) : mparse (mlay c l) = some (c, l) := by
  show (match mrows (mcells l) with | some l => some (c, l) | none => none) = _
  rw [mrows_cells]
theorem mlay_inj {c c' : Nat} {l l' : List Row} (h : mlay c l = mlay c' l') : c = c' ∧ l = l' := by
  have := mparse_lay c l
  rw [h, mparse_lay] at this
  cases this; exact ⟨rfl, rfl⟩
theorem inats_spec : ∀ (cs : List Value) (l : List Nat), inats cs = some l → cs = l.map fun n => .int .i64 (n : Nat) := by
  intro cs
  induction cs using inats.induct with
  | case1 => intro l h; simp [inats] at h; subst h; rfl
  | case2 n r l' hl ih =>
    intro l h
    simp only [inats, hl] at h
    cases h
    rw [List.map_cons, ← ih _ hl]; rfl
  | case3 n r hl ih =>
    intro l h
    simp only [inats, hl] at h
    cases h
  | case4 cs h1 h2 =>
    intro l h
    rw [inats] at h
    · cases h
    · exact h1
    · exact h2
theorem inats_map (l : List Nat) : inats (l.map fun n => .int .i64 (n : Nat)) = some l := by
  induction l with
  | nil => rfl
  | cons x l ih =>
    rw [List.map_cons]
    show inats (.int .i64 (Int.ofNat x) :: _) = _
    rw [inats, ih]
theorem iparse_spec {cs : List Value} {b s q : Nat} {l : List Nat} (h : iparse cs = some (b, s, q, l)) : cs = icells b s q l := by
  unfold iparse at h
  split at h
  · split at h
    · rename_i l' hl
      cases h
      rw [inats_spec _ _ hl]; rfl
    · cases h
  · cases h
theorem iparse_lay (b s q : Nat) (l : List Nat) : iparse (icells b s q l) = some (b, s, q, l) := by
  show (match inats (l.map fun n => .int .i64 (n : Nat)) with | some l => some (b, s, q, l) | none => none) = _
  rw [inats_map]
theorem icells_inj {b s q b' s' q' : Nat} {l l' : List Nat} (h : icells b s q l = icells b' s' q' l') : b = b' ∧ s = s' ∧ q = q' ∧ l = l' := by
  have := iparse_lay b s q l
  rw [h, iparse_lay] at this
  cases this; exact ⟨rfl, rfl, rfl, rfl⟩
theorem icells_mlay {b s q c : Nat} {l : List Nat} {r : List Row} (h : icells b s q l = mlay c r) : False := by
  unfold icells mlay at h
  injection h with h1 _
  cases h1
def RowsOk (m : Map) (l : List Row) (es : Array MapEntry) : Prop := ∀ (i : Nat) (x : Row), l[i]? = some x → ∃ e : MapEntry, es[i]? = some e ∧ (closed x.1 = true ∧ e.key = x.1) ∧ VR m x.2.1 e.val ∧ e.born = x.2.2
section
variable {P : Program} {m : Map} {H : Heap} {w : World}
theorem mapAt_spec {u : Value} {b c : Nat} {o : Ob} {l : List Row} (h : mapAt u H = some (b, o, c, l)) : u = .map (some b) ∧ H.get b = some o ∧ o.cells = mlay c l := by
  unfold mapAt at h
  split at h
  · split at h
    · rename_i o' ho
      split at h
      · rename_i c' l' hp
        cases h
        exact ⟨rfl, ho, mparse_spec hp⟩
      · cases h
    · cases h
  · cases h
theorem mapBlk_sound {b c : Nat} {o : Ob} {l : List Row} {L : Loc} (hr : Rep0 P m H w) (hb : m b = some L) (hmp : L.mp = true) (ho : H.get b = some o) (hc : o.cells = mlay c l) :
    ∃ es, o.ro = false ∧ w.heap[L.c]? = some (.map es c) ∧ l.length = es.size ∧ RowsOk m l es := by
  obtain ⟨hro, ⟨es, cl, l', g1, g2, g3, g4⟩ | ⟨b', M, s, st, seen, _, _, _, g⟩⟩ := (hr.blk b L o hb ho).mapd hmp
  · obtain ⟨rfl, rfl⟩ := mlay_inj (hc.symm.trans g2)
    exact ⟨es, hro, g1, g3, g4⟩
  · exact (icells_mlay (g.symm.trans hc)).elim
theorem mapAt_sound {u u' : Value} {b c : Nat} {o : Ob} {l : List Row} (h : mapAt u H = some (b, o, c, l)) (hr : Rep0 P m H w) (hu : VR m u u') :
    ∃ L es, u' = .map (some L.c) ∧ m b = some L ∧ L.mp = true ∧ H.get b = some o ∧ o.ro = false ∧ w.heap[L.c]? = some (.map es c) ∧ l.length = es.size ∧ RowsOk m l es := by
  obtain ⟨rfl, ho, hc⟩ := mapAt_spec h
  cases hu with
  | same hp => simp [plain] at hp
  | map hb hmp =>
    obtain ⟨es, h1, h2, h3, h4⟩ := mapBlk_sound hr hb hmp ho hc
    exact ⟨_, es, rfl, hb, hmp, ho, h1, h2, h3, h4⟩
theorem iterAt_sound {u u' : Value} {i b s q : Nat} {o : Ob} {l : List Nat} (h : iterAt u H = some (i, o, b, s, q, l)) (hr : Rep0 P m H w) (hu : VR m u u') :
    ∃ L M, u' = .pointer (some ⟨L.c, 0, none⟩) ∧ m i = some L ∧ L.mp = true ∧ H.get i = some o ∧ o.ro = false ∧ m b = some M ∧ M.mp = true ∧ w.heap[L.c]? = some (.mapIter (some M.c) s l.toArray q) := by
  unfold iterAt at h
  split at h
  · split at h
    · rename_i o' ho
      split at h
      · rename_i hp
        cases h
        have hc := iparse_spec hp
        cases hu with
        | same hp => simp [plain] at hp
        | iter hb hmp =>
          obtain ⟨hro, ⟨es, cl, l', g1, g2, g3, g4⟩ | ⟨b', M, s', st', seen', k1, k2, k3, k4⟩⟩ := (hr.blk _ _ _ hb ho).mapd hmp
          · exact (icells_mlay (hc.symm.trans g2)).elim
          · obtain ⟨rfl, rfl, rfl, rfl⟩ := icells_inj (hc.symm.trans k4)
            exact ⟨_, M, rfl, hb, hmp, ho, hro, k1, k2, k3⟩
      · cases h
    · cases h
  · cases h
/-! Keys -/
theorem keyEq_cases {kt : TypeId} {x y : Value} {q : Bool} (h : keyEq P kt x y = some q) :
    (∃ k a b, P.underlying kt = some (.int k) ∧ x = .int k a ∧ y = .int k b ∧ q = (a == b)) ∨
    (∃ u v, P.underlying kt = some (.struct (P.fieldsOf kt)) ∧ x = .agg u ∧ y = .agg v ∧ P.stoodInHeld kt = false ∧ aeqF P u v (P.fieldsOf kt).toList = some q) := by
  unfold keyEq at h
  split at h
  · rename_i k0 k a j b hu
    cases hb : (k == k0 && j == k0)
    · rw [hb] at h; cases h
    · rw [hb] at h
      simp only [cond_true, Option.some.injEq] at h
      simp only [Bool.and_eq_true, beq_iff_eq] at hb
      obtain ⟨rfl, rfl⟩ := hb
      exact .inl ⟨_, a, b, hu, rfl, rfl, h.symm⟩
  · rename_i fs u v hu
    cases hb : P.stoodInHeld kt
    · rw [hb] at h
      simp only [cond_false] at h
      have hf : P.fieldsOf kt = fs := by simp [Program.fieldsOf, hu]
      exact .inr ⟨u, v, by rw [hf]; exact hu, rfl, rfl, rfl, by rw [hf]; exact h⟩
    · rw [hb] at h; cases h
  · cases h
theorem keyEq_run {kt : TypeId} {x y : Value} {q : Bool} (h : keyEq P kt x y = some q) (w : World) : (Op.equal kt x y).run P w = .ok q w := by
  rcases keyEq_cases h with ⟨k, a, b, hu, rfl, rfl, rfl⟩ | ⟨u, v, hu, rfl, rfl, hs, hq⟩
  · exact run_equalIn_int w 9999 kt k k a b hu
  · show (Op.equalIn (9999 + 1) kt (.agg u) (.agg v)).run P w = _
    rw [run_equalIn_agg w 9999 kt u v hu hs, aeqF_run (w := w) (d := 9998) _ q hq]
theorem aeqF_part {xs : Array Value} : ∀ (fs : List Field) (q : Bool), aeqF P xs xs fs = some q → ∀ f ∈ fs, f.name ≠ "_" ∧ ∃ y, P.plainKey f.type = true ∧ xs[f.offset]? = some y ∧ ∀ (w : World) (e : Bool) (n : Nat), (Instr.checkKey e (n + 1) f.type y).run P w = .ok () w := by
  intro fs
  induction fs with
  | nil => intro q h f hf; cases hf
  | cons g r ih =>
    intro q h f hf
    simp only [aeqF] at h
    cases hn : g.name == "_"
    · rw [hn] at h
      simp only [cond_false] at h
      have hn' : g.name ≠ "_" := by simpa using hn
      split at h
      · rename_i k0 k a k' b q0 hu hx hy hr
        rcases List.mem_cons.1 hf with rfl | hf
        · refine ⟨hn', _, by unfold Program.plainKey; rw [hu], hx, fun w e n => ?_⟩
          simp [Instr.checkKey, run_underlying hu]
        · exact ih _ hr f hf
      · rename_i a b q0 hu hx hy hr
        rcases List.mem_cons.1 hf with rfl | hf
        · refine ⟨hn', _, by unfold Program.plainKey; rw [hu], hx, fun w e n => ?_⟩
          simp [Instr.checkKey, run_underlying hu]
        · exact ih _ hr f hf
      · cases h
    · rw [hn] at h; cases h
theorem checkKey_run0 {kt : TypeId} {x : Value} {q : Bool} (h : keyEq P kt x x = some q) (w : World) (e : Bool) (n : Nat) : (Instr.checkKey e (n + 2) kt x).run P w = .ok () w := by
  rcases keyEq_cases h with ⟨k, a, b, hu, rfl, _, rfl⟩ | ⟨u, v, hu, rfl, hv, hs, hq⟩
  · simp [Instr.checkKey, run_underlying hu]
  · cases hv
    have each := aeqF_part _ _ hq
    rw [show n + 2 = (n + 1) + 1 from rfl, Instr.checkKey]
    simp only [Sem.run_bind, run_underlying hu, Result.andThen_ok]
    rw [← Array.forIn_toList]
    generalize (P.fieldsOf kt).toList = L at each
    induction L with
    | nil => simp
    | cons f L ih =>
      obtain ⟨hn, y, hp, hy, hc⟩ := each f (by simp)
      simp only [List.forIn_cons, Sem.run_bind, hn, ne_eq, not_false_eq_true, if_true, Result.andThen_ok, run_part_plain w hp hy, hc w e n, Sem.run_pure]
      exact ih fun g hg => each g (by simp [hg])
theorem checkKey_run {kt : TypeId} {x : Value} {q : Bool} (h : keyEq P kt x x = some q) (w : World) (e : Bool) : (Instr.checkKey e 10000 kt x).run P w = .ok () w := checkKey_run0 h w e 9998
theorem mkey_spec {kt : TypeId} {i : Value} (h : mkey P kt i = true) : closed i = true ∧ ∃ q, keyEq P kt i i = some q := by
  unfold mkey at h
  simp only [Bool.and_eq_true] at h
  refine ⟨h.1, ?_⟩
  cases hq : keyEq P kt i i with
  | none => rw [hq] at h; cases h.2
  | some q => exact ⟨q, rfl⟩
theorem asking_sound {kt : TypeId} {k : Value} (w : World) : ∀ (l : List Row) (es : List MapEntry) (n0 : Nat), l.length = es.length → (∀ (i : Nat) (x : Row), l[i]? = some x → ∃ e : MapEntry, es[i]? = some e ∧ (closed x.1 = true ∧ e.key = x.1) ∧ VR m x.2.1 e.val ∧ e.born = x.2.2) → ∀ r, mfind P kt k l n0 = some r →
    (r = none ∧ (Instr.findAsking kt k es n0).run P w = .ok none w) ∨ ∃ j v n e, r = some (n0 + j, v, n) ∧ es[j]? = some e ∧ VR m v e.val ∧ e.born = n ∧ Instr.sameBits 10000 e.key k = true ∧ (Instr.findAsking kt k es n0).run P w = .ok (some (n0 + j, e.val)) w
  | [], [], n0, _, _, r, h => by cases h; exact .inl ⟨rfl, by simp [Instr.findAsking]⟩
  | x :: l, [], n0, hl, _, r, h => by simp at hl
  | [], e :: es, n0, hl, _, r, h => by simp at hl
  | (y, v, n) :: l, e :: es, n0, hl, hv, r, h => by
    obtain ⟨e', he, ⟨_, h1⟩, h2, h3⟩ := hv 0 (y, v, n) rfl
    simp at he; subst he
    have h1 : e.key = y := h1
    unfold mfind at h
    split at h
    · rename_i hq
      have hrun := keyEq_run hq w
      rw [← h1] at hrun
      cases hs : Instr.sameBits 10000 y k
      · rw [hs] at h; cases h
      · rw [hs] at h
        cases h
        exact .inr ⟨0, v, n, e, rfl, rfl, h2, h3, by rw [h1]; exact hs, by simp [Instr.findAsking, hrun]⟩
    · rename_i hq
      have hrun := keyEq_run hq w
      rw [← h1] at hrun
      rcases asking_sound w l es (n0 + 1) (by simpa using hl) (fun i z hz => by have := hv (i + 1) z (by simpa using hz); simpa using this) r h with ⟨k1, k2⟩ | ⟨j, v', n', e2, k1, k2, k3, k4, k5, k6⟩
      · exact .inl ⟨k1, by simp [Instr.findAsking, hrun, k2]⟩
      · exact .inr ⟨j + 1, v', n', e2, by rw [k1]; congr 2; omega, by simpa using k2, k3, k4, k5, by simp [Instr.findAsking, hrun, k6, Nat.add_assoc, Nat.add_comm 1 j]⟩
    · cases h
theorem findNow_sound {q : IntKind} {kt : TypeId} {a : Int} (hu : P.underlying kt = some (.int q)) : ∀ (l : List Row) (es : List MapEntry) (n0 : Nat), l.length = es.length → (∀ (i : Nat) (x : Row), l[i]? = some x → ∃ e : MapEntry, es[i]? = some e ∧ (closed x.1 = true ∧ e.key = x.1) ∧ VR m x.2.1 e.val ∧ e.born = x.2.2) → ∀ r, mfind P kt (.int q a) l n0 = some r →
    (r = none ∧ Instr.findNow (.int q) (.int q a) es n0 = some none) ∨ ∃ j v n e, r = some (n0 + j, v, n) ∧ es[j]? = some e ∧ VR m v e.val ∧ e.born = n ∧ Instr.sameBits 10000 e.key (.int q a) = true ∧ Instr.findNow (.int q) (.int q a) es n0 = some (some (n0 + j, e.val))
  | [], [], n0, _, _, r, h => by cases h; exact .inl ⟨rfl, rfl⟩
  | x :: l, [], n0, hl, _, r, h => by simp at hl
  | [], e :: es, n0, hl, _, r, h => by simp at hl
  | (y, v, n) :: l, e :: es, n0, hl, hv, r, h => by
    obtain ⟨e', he, ⟨_, h1⟩, h2, h3⟩ := hv 0 (y, v, n) rfl
    simp at he; subst he
    have h1 : e.key = y := h1
    unfold mfind at h
    have key : ∀ qb, keyEq P kt (.int q a) y = some qb → Instr.sameNow (.int q) (.int q a) e.key = some qb := by
      intro qb hq
      rcases keyEq_cases hq with ⟨k, a', b, hu', hx, hy, rfl⟩ | ⟨u, v, hu', hx, _⟩
      · cases hx
        rw [h1, hy]; simp [Instr.sameNow]
      · cases hx
    split at h
    · rename_i hq
      have hrun := key _ hq
      cases hs : Instr.sameBits 10000 y (.int q a)
      · rw [hs] at h; cases h
      · rw [hs] at h
        cases h
        exact .inr ⟨0, v, n, e, rfl, rfl, h2, h3, by rw [h1]; exact hs, by simp only [Instr.findNow, hrun]; rfl⟩
    · rename_i hq
      have hrun := key _ hq
      rcases findNow_sound hu l es (n0 + 1) (by simpa using hl) (fun i z hz => by have := hv (i + 1) z (by simpa using hz); simpa using this) r h with ⟨k1, k2⟩ | ⟨j, v', n', e2, k1, k2, k3, k4, k5, k6⟩
      · exact .inl ⟨k1, by simp only [Instr.findNow, hrun]; exact k2⟩
      · exact .inr ⟨j + 1, v', n', e2, by rw [k1]; congr 2; omega, by simpa using k2, k3, k4, k5, by simp only [Instr.findNow, hrun]; rw [k6]; congr 3; omega⟩
    · cases h
theorem findKey_sound {kt : TypeId} {k : Value} (w : World) (hk : mkey P kt k = true) {l : List Row} {es : Array MapEntry} (hl : l.length = es.size) (hv : RowsOk m l es) {r : Option (Nat × Value × Nat)} (h : mfind P kt k l 0 = some r) :
    (r = none ∧ (Instr.findKey kt k es.toList).run P w = .ok none w) ∨ ∃ j v n e, r = some (j, v, n) ∧ es[j]? = some e ∧ VR m v e.val ∧ e.born = n ∧ Instr.sameBits 10000 e.key k = true ∧ (Instr.findKey kt k es.toList).run P w = .ok (some (j, e.val)) w := by
  obtain ⟨_, q, hq⟩ := mkey_spec hk
  rcases keyEq_cases hq with ⟨k', a, b, hu, rfl, _, rfl⟩ | ⟨u, v, hu, rfl, _⟩
  · rcases findNow_sound (m := m) hu l es.toList 0 (by simpa using hl) (fun i x hx => by simpa using hv i x hx) _ h with ⟨k1, k2⟩ | ⟨j, v, n, e, k1, k2, k3, k4, k5, k6⟩
    · exact .inl ⟨k1, MapKept.run_findKey hu k2⟩
    · exact .inr ⟨j, v, n, e, by simpa using k1, by simpa using k2, k3, k4, k5, by have := MapKept.run_findKey (w := w) hu k6; simpa using this⟩
  · rw [run_findKey_eq w (by rw [hu]) _ _]
    rcases asking_sound (m := m) w l es.toList 0 (by simpa using hl) (fun i x hx => by simpa using hv i x hx) _ h with ⟨k1, k2⟩ | ⟨j, v, n, e, k1, k2, k3, k4, k5, k6⟩
    · exact .inl ⟨k1, k2⟩
    · exact .inr ⟨j, v, n, e, by simpa using k1, by simpa using k2, k3, k4, k5, by simpa using k6⟩
end
end Go.Ev
