/- The operations of the evaluator, all of them, are the model's. -/
import Derived.Test.YthmcpmdohmfeiaaGreatDoorEvG
import Derived.Laws.StructEq
import Derived.ChangeKeysEq
namespace Go.Ev
open Go
set_option linter.unusedVariables false
set_option linter.unusedSimpArgs false
theorem bytesOf_spec : ∀ (l : List Value) (s0 s : ByteArray), bytesOf.go l s0 = some s → ∃ ns : List Int, l = ns.map (Value.int .u8) ∧ s = ns.foldl (fun r n => r.push (UInt8.ofNat n.toNat)) s0 := by
  intro l
  induction l with
  | nil => intro s0 s h; simp only [bytesOf.go] at h; cases h; exact ⟨[], rfl, rfl⟩
  | cons v l ih =>
    intro s0 s h
    unfold bytesOf.go at h
    split at h
    · rename_i he; cases he
    · rename_i n r he; cases he
      obtain ⟨ns, h1, h2⟩ := ih _ _ h
      exact ⟨n :: ns, by rw [h1]; rfl, h2⟩
    · cases h
theorem prun_run {α : Type} {P : Program} {w : World} (s : Sem α) : ∀ (a : α), prun P s = some a → s.run P w = .ok a w := by
  induction s with
  | pure b => intro a h; simp only [prun] at h; cases h; rfl
  | program k ih => intro a h; simp only [prun] at h; exact ih P a h
  | _ => intro a h; simp [prun] at h
def TmRel (m : Map) (tm : Tr Value) (arr : Array Value) : Prop := ∀ t, VR m ((tm.get t).getD undef) (arr.getD t undef)
theorem TmRel.mono {m m' : Map} (hm : m.le m') {tm : Tr Value} {arr : Array Value} (h : TmRel m tm arr) : TmRel m' tm arr := fun t => (h t).mono hm
/-- What an operation looks at goes together. -/
def OpRel (m : Map) (tm : Tr Value) (a : Act) (xs : List Operand) : Prop := ∀ x ∈ xs, ∀ v, aeval tm x = some v → VR m v (a.eval x)
section
variable {m : Map} {tm : Tr Value} {a : Act}
theorem TmRel.op (ht : TmRel m tm a.tmps) (xs : List Operand) : OpRel m tm a xs := by
  intro x _ v h
  cases x with
  | tmp t => simp only [aeval] at h; cases h; exact ht t
  | const c =>
    simp only [aeval] at h
    cases hc : closed c
    · rw [hc] at h; cases h
    · rw [hc] at h; cases h; exact VR.of_closed hc
  | func f => simp only [aeval] at h; cases h; exact VR.of_closed rfl
  | global g => simp [aeval] at h
theorem aevals_sound : ∀ {xs : List Operand} {l : List Value}, OpRel m tm a xs → aevals tm xs = some l → VRs m l (xs.map a.eval) := by
  intro xs
  induction xs with
  | nil => intro l ht h; simp only [aevals] at h; cases h; exact VRs.nil
  | cons x xs ih =>
    intro l ht h
    simp only [aevals] at h
    split at h
    · rename_i v l' h1 h2
      cases h
      exact VRs.cons (ht x (by simp) _ h1) (ih (fun y hy => ht y (by simp [hy])) h2)
    · cases h
theorem aevalp_sound : ∀ {xs : List (Nat × Operand)} {l : List (Nat × Value)}, OpRel m tm a (xs.map (·.2)) → aevalp tm xs = some l → PR m l (xs.map fun p => (p.1, a.eval p.2)) := by
  intro xs
  induction xs with
  | nil => intro l ht h; simp only [aevalp] at h; cases h; exact .nil
  | cons x xs ih =>
    intro l ht h
    obtain ⟨i, x⟩ := x
    simp only [aevalp] at h
    split at h
    · rename_i v l' h1 h2
      cases h
      exact .cons (ht x (by simp) _ h1) (ih (fun y hy => ht y (by simp at hy ⊢; exact .inr hy)) h2)
    · cases h
theorem aevalo_sound {x : Option Operand} {o : Option Value} (ht : OpRel m tm a x.toList) (h : aevalo tm x = some o) : (∀ v, o = some v → ∃ v', x.map a.eval = some v' ∧ VR m v v') ∧ (o = none → x.map a.eval = none) := by
  cases x with
  | none => simp only [aevalo] at h; cases h; exact ⟨fun v h => (by cases h), fun _ => rfl⟩
  | some x =>
    simp only [aevalo] at h
    split at h
    · rename_i v hv
      cases h
      exact ⟨fun u hu => by cases hu; exact ⟨_, rfl, ht x (by simp) _ hv⟩, fun h => by cases h⟩
    · cases h
theorem fallback0_sound {P : Program} {o : Oper} {v : Value} {w : World} (ht : OpRel m tm a o.op.operands.toList) (hs : ∀ cs b, o.op ≠ .select cs b) (h : fallback0 P tm o = some v) : (execOp a.eval o).run P w = .ok (.value v) w ∧ closed v = true := by
  unfold fallback0 at h
  cases hall : o.op.operands.toList.all (dataAt tm)
  · rw [hall] at h; cases h
  · rw [hall] at h
    simp only [cond_true] at h
    split at h
    · rename_i u hu
      cases hc : closed u
      · rw [hc] at h; cases h
      · rw [hc] at h
        cases h
        refine ⟨?_, hc⟩
        have : execOp a.eval o = execOp (ρ tm) o := execOp_congr o hs fun x hx => by
          have h1 := List.all_eq_true.1 hall x (by simpa using hx)
          unfold dataAt at h1
          split at h1
          · rename_i v' hv'
            have := (ht x (by simpa using hx) _ hv').closed_eq h1
            simp [ρ, hv', this]
          · cases h1
        rw [this]
        exact prun_run _ _ hu
    · cases h
theorem aeqF_run {P : Program} {w : World} {xs ys : Array Value} {d : Nat} : ∀ (fs : List Field) (q : Bool), aeqF P xs ys fs = some q → (Op.eqFields (d + 1) xs ys fs).run P w = .ok q w := by
  intro fs
  induction fs with
  | nil => intro q h; simp only [aeqF] at h; cases h; simp [Op.eqFields]
  | cons f r ih =>
    intro q h
    simp only [aeqF] at h
    cases hn : f.name == "_"
    · rw [hn] at h
      simp only [cond_false] at h
      have hn' : f.name ≠ "_" := by simpa using hn
      split at h
      · rename_i k0 k a k' b q0 hu hx hy hr
        cases hk : k == k'
        · rw [hk] at h; cases h
        · rw [hk] at h
          simp only [cond_true] at h
          cases h
          have hk := eq_of_beq hk
          subst hk
          have hp : P.plainKey f.type = true := by unfold Program.plainKey; rw [hu]
          simp only [Op.eqFields, hn', ne_eq, not_false_eq_true, if_true, Sem.run_bind, run_part_plain w hp hx, run_part_plain w hp hy, Result.andThen_ok, run_equalIn_int w d f.type k k0 a b hu]
          cases he : a == b
          · simp
          · simpa using ih _ hr
      · rename_i a b q0 hu hx hy hr
        cases h
        have hp : P.plainKey f.type = true := by unfold Program.plainKey; rw [hu]
        simp only [Op.eqFields, hn', ne_eq, not_false_eq_true, if_true, Sem.run_bind, run_part_plain w hp hx, run_part_plain w hp hy, Result.andThen_ok, run_equalIn_bool' w d f.type a b hu]
        cases he : a == b
        · simp
        · simpa using ih _ hr
      · cases h
    · rw [hn] at h; cases h
theorem aggEq_sound {P : Program} {o : Oper} {v : Value} {w : World} (ht : OpRel m tm a o.op.operands.toList) (hs : o.op.operands.toList.all (dataAt tm) = true) (h : aggEq P tm o = some v) : (execOp a.eval o).run P w = .ok (.value v) w ∧ closed v = true := by
  unfold aggEq at h
  split at h
  · rename_i op t xa xb t2 hop
    have hcl : ∀ x ∈ o.op.operands.toList, ∀ u, aeval tm x = some u → a.eval x = u := fun x hx u hu => by
      have h1 := List.all_eq_true.1 hs x hx
      unfold dataAt at h1
      rw [hu] at h1
      exact (ht x hx u hu).closed_eq h1
    rw [hop] at hcl
    have struct_of : ∀ {d : TypeDesc}, isStr (P.underlying t) = true → P.underlying t = some (.struct (P.fieldsOf t)) := by
      intro d hd
      unfold isStr at hd
      split at hd
      · rename_i fs hu; simp [Program.fieldsOf, hu]
      · cases hd
    split at h
    · rename_i x y hx hy
      have e1 := hcl xa (by simp [Op.operands]) _ hx
      have e2 := hcl xb (by simp [Op.operands]) _ hy
      cases hb : (isStr (P.underlying t) && !P.stoodInHeld t && !P.eqGuardType P.depth t)
      · rw [hb] at h; cases h
      · rw [hb] at h
        simp only [cond_true] at h
        simp only [Bool.and_eq_true, Bool.not_eq_true'] at hb
        split at h
        · rename_i q hq
          cases h
          refine ⟨?_, rfl⟩
          have hst := struct_of (d := .bool) hb.1.1
          have hfs : fsOf P t = (P.fieldsOf t).toList := by unfold fsOf; rw [hst]
          rw [hfs] at hq
          have := aeqF_run (w := w) (d := 9998) _ q hq
          simp only [execOp, hop, e1, e2, Sem.run_bind, run_eqGuard_agg w .eql t xa xb x y hb.2, Result.andThen_ok, run_eql_struct, run_equalIn_agg w 9999 t x y hst hb.1.2, this, Sem.run_pure]
        · cases h
    · rename_i x y hx hy
      have e1 := hcl xa (by simp [Op.operands]) _ hx
      have e2 := hcl xb (by simp [Op.operands]) _ hy
      cases hb : (isStr (P.underlying t) && !P.stoodInHeld t && !P.eqGuardType P.depth t)
      · rw [hb] at h; cases h
      · rw [hb] at h
        simp only [cond_true] at h
        simp only [Bool.and_eq_true, Bool.not_eq_true'] at hb
        split at h
        · rename_i q hq
          cases h
          refine ⟨?_, rfl⟩
          have hst := struct_of (d := .bool) hb.1.1
          have hfs : fsOf P t = (P.fieldsOf t).toList := by unfold fsOf; rw [hst]
          rw [hfs] at hq
          have := aeqF_run (w := w) (d := 9998) _ q hq
          simp only [execOp, hop, e1, e2, Sem.run_bind, run_eqGuard_agg w .neq t xa xb x y hb.2, Result.andThen_ok, run_neq_struct, run_equalIn_agg w 9999 t x y hst hb.1.2, this, Sem.run_pure]
        · cases h
    · cases h
  · cases h
theorem fallback_sound {P : Program} {o : Oper} {v : Value} {w : World} (ht : OpRel m tm a o.op.operands.toList) (hs : ∀ cs b, o.op ≠ .select cs b) (h : fallback P tm o = some v) : (execOp a.eval o).run P w = .ok (.value v) w ∧ closed v = true := by
  unfold fallback at h
  split at h
  · rename_i u hu
    cases hb : o.op.operands.toList.all (dataAt tm)
    · rw [hb] at h; cases h
    · rw [hb] at h
      cases h
      exact aggEq_sound ht hb hu
  · exact fallback0_sound ht hs h
end
section
variable {P : Program} {T : Tab} (hT : TabOk P T) {m : Map} {H : Heap} {w : World}
include hT
theorem aconvert_sound0 {src dst : TypeId} {x x' v : Value} (h : aconvert T src dst x H = some v) (hr : Rep0 P m H w) (hx : VR m x x') :
    (Go.convert src dst x').run P w = .ok v w ∧ plain v = true := by
  unfold aconvert at h
  split at h
  · rename_i sd k k' n hs hd
    cases h
    rw [hx.plain_eq rfl]
    refine ⟨?_, rfl⟩
    cases sd <;> simp [Go.convert, run_under hT hs, run_under hT hd, Conv.intToInt]
  · rename_i e l c hs hd
    rw [hx.plain_eq rfl]
    cases hu : isU8 (T.under e)
    · rw [hu] at h; cases h
    rw [hu] at h
    cases h
    have he : T.under e = some (.int .u8) := by
      unfold isU8 at hu
      split at hu
      · assumption
      · cases hu
    refine ⟨?_, rfl⟩
    rw [run_convert_bytes_string w src dst e none l c (hT.under _ _ hs) (hT.under _ _ he) (hT.under _ _ hd)]
    rfl
  · rename_i e b off n c hs hd
    cases hu : isU8 (T.under e)
    · rw [hu] at h; cases h
    rw [hu] at h
    simp only [cond_true] at h
    have he : T.under e = some (.int .u8) := by
      unfold isU8 at hu
      split at hu
      · assumption
      · cases hu
    split at h
    · rename_i o ho
      cases hlen : ((o.cells.drop off).take n).length.beq n
      · simp only [hlen, cond_false] at h; cases h
      · simp only [hlen, cond_true] at h
        split at h
        · rename_i s hsb
          cases h
          refine ⟨?_, rfl⟩
          cases hx with
          | same hp => simp [plain] at hp
          | slice hm hmp hc =>
            rename_i q c' L
            rw [run_convert_bytes_string w src dst e _ n c' (hT.under _ _ hs) (hT.under _ _ he) (hT.under _ _ hd)]
            have hlen' : ((o.cells.drop off).take n).length = n := by simpa using hlen
            obtain ⟨l, h1, h2, h3, h4⟩ := cells_take ((hr.blk b L o hm ho).cel hmp) off n hlen'
            obtain ⟨ns, h5, h6⟩ := bytesOf_spec _ _ _ hsb
            have hl : l = ns.map (Value.int .u8) := by
              rw [h5] at h1
              refine List.ext_getElem? fun i => ?_
              by_cases hi : i < ns.length
              · obtain ⟨y, hy, hv⟩ := h1.2 i (.int .u8 ns[i]) (by simp [hi])
                rw [hy, hv.plain_eq rfl]; simp [hi]
              · rw [List.getElem?_eq_none (by have := h1.1; simp at this; omega), List.getElem?_eq_none (by simp; omega)]
            have hrun : (loadCells ⟨L.c, q, none⟩ n).run P w = .ok l.toArray w := by
              have := run_loadCells_list (P := P) w ⟨L.c, q, none⟩ l (fun j y hy => by
                rw [Addr.add_mid]
                rcases hc with ⟨_, _, rfl⟩ | ⟨_, _, _, h0 | rfl⟩
                · exact h3 j y hy
                · have := (List.getElem?_eq_some_iff.1 hy).1; omega
                · exact h3 j y hy)
              rwa [h2] at this
            rw [hl] at hrun
            rw [run_bytesToString w _ n c' ns hrun, h6]
        · cases h
    · cases h
  · cases h
theorem aconvert_sound [Bs] {src dst : TypeId} {x x' v : Value} (h : aconvert T src dst x H = some v) (hr : Rep P m H w) (hx : VR m x x') :
    (Go.convert src dst x').run P w = .ok v w ∧ plain v = true := aconvert_sound0 hT h hr.toRep0 hx
omit hT in
theorem atrim_sound [Bs] {size k n : Nat} {x x' y : Value} {l : List Value} {n1 : Nat} (hs : 0 < size) (h : atrim k x = some (n, y)) (hsrc : asrc size y H = some (n1, l)) (hr : Rep P m H w) (hx : VR m x x') :
    ∃ n0 l', Builtin.lenOf x' = Sem.pure n0 ∧ n = Nat.min n0 k ∧ (Builtin.firstCells size n x').run P w = .ok l'.toArray w ∧ VRs m l l' ∧ l.length = n * size := by
  unfold atrim at h
  split at h
  · rename_i a n0 c
    cases h
    cases hx with
    | same hp =>
      cases a with
      | some a => simp [plain] at hp
      | none =>
        unfold asrc at hsrc
        simp only at hsrc
        cases hb : (Nat.min n0 k).beq 0
        · rw [hb] at hsrc; cases hsrc
        · rw [hb] at hsrc
          cases hsrc
          have : Nat.min n0 k = 0 := by simpa using hb
          exact ⟨n0, [], rfl, rfl, rfl, VRs.nil, by rw [this]; simp⟩
    | slice hm hmp hc =>
      rename_i b off q c' L
      have hvr : VR m (.slice (some ⟨b, off, none⟩) (Nat.min n0 k) c) (.slice (some ⟨L.c, q, none⟩) (Nat.min n0 k) c') := by
        have hle : Nat.min n0 k ≤ n0 := Nat.min_le_left _ _
        refine .slice hm hmp ?_
        rcases hc with h1 | ⟨h1, h2, h3, h4⟩
        · exact .inl h1
        · refine .inr ⟨h1, by omega, h3, ?_⟩
          rcases h4 with h4 | h4
          · exact .inl (by omega)
          · exact .inr h4
      have hn1 : n1 = Nat.min n0 k := by
        unfold asrc at hsrc
        simp only at hsrc
        split at hsrc
        · rename_i o ho
          cases hq : ((o.cells.drop off).take (Nat.min n0 k * size)).length.beq (Nat.min n0 k * size)
          · rw [hq] at hsrc; cases hsrc
          · rw [hq] at hsrc; cases hsrc; rfl
        · cases hsrc
      subst hn1
      obtain ⟨new', hS⟩ := asrc_sound hs hsrc hr hvr
      exact ⟨n0, new', rfl, rfl, hS.cells P w.drawn, hS.vrs, hS.newLen⟩
  · rename_i s
    cases h
    rw [hx.plain_eq rfl]
    unfold asrc at hsrc
    simp only at hsrc
    cases hq : size.beq 1
    · rw [hq] at hsrc; cases hsrc
    · rw [hq] at hsrc
      cases hsrc
      refine ⟨s.size, _, rfl, rfl, ?_, VRs.of_closed (by simp only [List.all_map, List.all_eq_true]; intro b _; rfl), by have h1 : size = 1 := (by simpa using hq); subst h1; simp⟩
      simp only [Builtin.firstCells, Sem.run_pure]
      congr 1
      apply Array.ext'
      simp
  · cases h
theorem acopy_sound [Bs] {dt xt : TypeId} {d x d' x' v : Value} {H' : Heap} (h : acopy T dt d x H = some (v, H')) (hr : Rep P m H w) (hd : VR m d d') (hx : VR m x x') (ty : TypeId) :
    ∃ w', (Builtin.copy_ #[dt, xt] ty #[d', x']).run P w = .ok v w' ∧ plain v = true ∧ Rep P m H' w' ∧ Fr m H w m H' w' := by
  unfold acopy at h
  split at h
  · rename_i e base dlen dcap hdt
    split at h
    · rename_i s0 n y hn hy
      split at h
      · rename_i n1 hs
        cases h
        obtain ⟨n0, l', h1, h2, h3, h4, h5⟩ := atrim_sound (by omega) hy hs hr hx
        have hl' : l' = [] := List.eq_nil_of_length_eq_zero (by have := h4.1; simp at this; omega)
        subst hl'
        subst h2
        refine ⟨w, ?_, rfl, hr, Fr.refl _ _ _⟩
        cases hd with
        | same hp => cases base <;> simp [Builtin.copy_, run_under hT hdt, h1, run_size hT hn, h3, goInt, storeCells]
        | slice hm hmp hc => simp [Builtin.copy_, run_under hT hdt, h1, run_size hT hn, h3, goInt, storeCells]
      · rename_i n1 l hne hs
        obtain ⟨n0, l', h1, h2, h3, h4, h5⟩ := atrim_sound (by omega) hy hs hr hx
        split at h
        · rename_i b off
          split at h
          · rename_i H2 hput
            cases h
            cases hd with
            | same hp => simp [plain] at hp
            | slice hm hmp hc =>
              rename_i q c' L
              obtain ⟨w', g1, g2, g3⟩ := aput_sound hput hr hm hmp h4
              subst h2
              have hl0 : dlen ≠ 0 := by
                intro h0
                subst h0
                have : l = [] := List.eq_nil_of_length_eq_zero (by rw [h5]; simp)
                exact hne this
              have hq : q = L.o + off := by
                rcases hc with ⟨_, _, h⟩ | ⟨_, _, _, h⟩
                · exact h
                · omega
              subst hq
              refine ⟨w', ?_, rfl, g2, g3⟩
              simp [Builtin.copy_, run_under hT hdt, h1, run_size hT hn, h3, g1, goInt]
          · cases h
        · cases h
      · cases h
    · cases h
  · cases h
end
end Go.Ev
