/- Each operation of the evaluator is the model's, more of them: numbers, slices, fields, what is built. -/
import Derived.Test.YthmcpmdohmfeiaaGreatDoorEvD
import Derived.Laws.MakeOwn
import Derived.Great.BuildSlice
import Derived.Laws.BytesString
namespace Go.Ev
open Go
set_option linter.unusedVariables false
set_option linter.unusedSimpArgs false
/-- What two numbers give. -/
theorem ibin_run {P : Program} {w : World} {op : BinOp} {k : IntKind} {a b : Int} {v : Value} (h : ibin op k a b = some v) (t : TypeId) (hs : isShift op = false) : (Go.binOp op t (.int k a) (.int k b)).run P w = .ok v w ∧ plain v = true := by
  cases op <;> simp only [ibin, isShift] at h hs <;> first
    | (cases h; exact ⟨by simp [Go.binOp, Op.intArith, Op.intBits, Op.intCmp], rfl⟩)
    | (cases hs; done)
    | (cases hb : (b == 0) <;> rw [hb] at h <;> simp only [cond_true, cond_false] at h
       · cases h
         have : ¬ b = 0 := by simpa using hb
         exact ⟨by simp [Go.binOp, Op.intDiv, this], rfl⟩
       · cases h)
    | cases h
theorem ishift_run {P : Program} {w : World} {op : BinOp} {k k' : IntKind} {a b : Int} {v : Value} (h : ishift op k a b = some v) (t : TypeId) : (Go.binOp op t (.int k a) (.int k' b)).run P w = .ok v w ∧ plain v = true := by
  unfold ishift at h
  cases hb : decide (b < 0)
  · rw [hb] at h
    simp only [cond_false] at h
    have : ¬ b < 0 := by simpa using hb
    split at h
    · cases h; exact ⟨by simp [Go.binOp, Op.shift, this], rfl⟩
    · cases h; exact ⟨by simp [Go.binOp, Op.shift, this], rfl⟩
    · cases h
  · rw [hb] at h; cases h
theorem eqGuard_ok {P : Program} {w : World} (op : BinOp) (t : TypeId) (x y : Operand) (a b : Value) (h : ¬ (a = .nilIface) ∧ (∀ cs, a ≠ .agg cs)) : (eqGuard op t x y a b).run P w = .ok () w := by
  cases op <;> first | rfl | (cases a <;> first | rfl | exact absurd rfl h.1 | exact absurd rfl (h.2 _))
theorem eq_pp {P : Program} {w : World} {t e : TypeId} (h : P.underlying t = some (.pointer e)) (d : Nat) (b : Option Addr) : (Op.equalIn (d + 1) t (.pointer none) (.pointer b)).run P w = .ok b.isNone w := by
  simp [Op.equalIn, run_underlying h]
theorem eq_pn {P : Program} {w : World} {t e : TypeId} (h : P.underlying t = some (.pointer e)) (d : Nat) (a : Addr) : (Op.equalIn (d + 1) t (.pointer (some a)) (.pointer none)).run P w = .ok false w := by
  simp [Op.equalIn, run_underlying h]
theorem eq_ss {P : Program} {w : World} {t e : TypeId} (h : P.underlying t = some (.slice e)) (d : Nat) (b : Option Addr) (l c l' c' : Nat) : (Op.equalIn (d + 1) t (.slice none l c) (.slice b l' c')).run P w = .ok b.isNone w := by
  simp [Op.equalIn, run_underlying h]
theorem eq_sn {P : Program} {w : World} {t e : TypeId} (h : P.underlying t = some (.slice e)) (d : Nat) (a : Addr) (l c l' c' : Nat) : (Op.equalIn (d + 1) t (.slice (some a) l c) (.slice none l' c')).run P w = .ok false w := by
  simp [Op.equalIn, run_underlying h]
theorem eq_bb {P : Program} {w : World} {t : TypeId} (h : P.underlying t = some .bool) (d : Nat) (a b : Bool) : (Op.equalIn (d + 1) t (.bool a) (.bool b)).run P w = .ok (a == b) w := by
  simp [Op.equalIn, run_underlying h]
theorem bin_eq {P : Program} {w : World} {t : TypeId} {u v : Value} {b : Bool} (h : (Op.equal t u v).run P w = .ok b w) : ((do pure (.bool (← Op.equal t u v)) : Sem Value)).run P w = .ok (.bool b) w ∧ ((do pure (.bool (!(← Op.equal t u v))) : Sem Value)).run P w = .ok (.bool !b) w := by
  simp [h]
section
variable {P : Program} {T : Tab} (hT : TabOk P T) {m : Map} {H : Heap} {w : World}
include hT
theorem abin_sound {op : BinOp} {t : TypeId} {u u' v v' r : Value} (h : abin T op t u v = some r) (hu : VR m u u') (hv : VR m v v') (x y : Operand) :
    (do eqGuard op t x y u' v'; Go.binOp op t u' v' : Sem Value).run P w = .ok r w ∧ plain r = true := by
  unfold abin at h
  split at h
  · have := hu.plain_eq rfl
    subst this
    have := hv.plain_eq rfl
    subst this
    rename_i k a k' b
    rw [Sem.run_bind, eqGuard_ok op t x y _ _ ⟨by simp, by simp⟩, Result.andThen_ok]
    cases hs : isShift op
    · rw [hs] at h
      simp only [cond_false] at h
      cases hk : (k == k')
      · rw [hk] at h; cases h
      · have : k = k' := by simpa using hk
        subst this
        rw [hk] at h
        exact ibin_run h t hs
    · rw [hs] at h; exact ishift_run h t
  · have := hu.plain_eq rfl
    subst this
    have := hv.plain_eq rfl
    subst this
    rw [Sem.run_bind, eqGuard_ok op t x y _ _ ⟨by simp, by simp⟩, Result.andThen_ok]
    split at h
    · rename_i hd; cases h
      refine ⟨?_, rfl⟩
      exact (bin_eq (eq_bb (w := w) (hT.under _ _ hd) 9999 _ _)).1
    · rename_i hd; cases h
      refine ⟨?_, rfl⟩
      exact (bin_eq (eq_bb (w := w) (hT.under _ _ hd) 9999 _ _)).2
    · cases h
  · have := hu.plain_eq rfl
    subst this
    rename_i b
    have hb : ∃ b', v' = .pointer b' ∧ b'.isNone = b.isNone := by
      cases hv with
      | same h => exact ⟨_, rfl, rfl⟩
      | ptr h => exact ⟨_, rfl, rfl⟩
    obtain ⟨b', rfl, hb⟩ := hb
    rw [Sem.run_bind, eqGuard_ok op t x y _ _ ⟨by simp, by simp⟩, Result.andThen_ok]
    split at h
    · rename_i e hd; cases h
      refine ⟨?_, rfl⟩
      have hq := eq_pp (w := w) (hT.under _ _ hd) 9999
      rw [← hb]
      exact (bin_eq (hq _)).1
    · rename_i e hd; cases h
      refine ⟨?_, rfl⟩
      have hq := eq_pp (w := w) (hT.under _ _ hd) 9999
      rw [← hb]
      exact (bin_eq (hq _)).2
    · cases h
  · have := hv.plain_eq rfl
    subst this
    have hb : ∃ b', u' = .pointer (some b') := by
      cases hu with
      | same h => exact ⟨_, rfl⟩
      | ptr h => exact ⟨_, rfl⟩
    obtain ⟨b', rfl⟩ := hb
    rw [Sem.run_bind, eqGuard_ok op t x y _ _ ⟨by simp, by simp⟩, Result.andThen_ok]
    split at h
    · rename_i e hd; cases h
      refine ⟨?_, rfl⟩
      have hq := eq_pn (w := w) (hT.under _ _ hd) 9999
      exact (bin_eq (hq _)).1
    · rename_i e hd; cases h
      refine ⟨?_, rfl⟩
      have hq := eq_pn (w := w) (hT.under _ _ hd) 9999
      exact (bin_eq (hq _)).2
    · cases h
  · have := hu.plain_eq rfl
    subst this
    rename_i b _ _
    have hb : ∃ b' l c, v' = .slice b' l c ∧ b'.isNone = b.isNone := by
      cases hv with
      | same h => exact ⟨_, _, _, rfl, rfl⟩
      | slice h hl hc => exact ⟨_, _, _, rfl, rfl⟩
    obtain ⟨b', l, c, rfl, hb⟩ := hb
    rw [Sem.run_bind, eqGuard_ok op t x y _ _ ⟨by simp, by simp⟩, Result.andThen_ok]
    split at h
    · rename_i e hd; cases h
      refine ⟨?_, rfl⟩
      have hq := eq_ss (w := w) (hT.under _ _ hd) 9999
      rw [← hb]
      exact (bin_eq (hq _ _ _ _ _)).1
    · rename_i e hd; cases h
      refine ⟨?_, rfl⟩
      have hq := eq_ss (w := w) (hT.under _ _ hd) 9999
      rw [← hb]
      exact (bin_eq (hq _ _ _ _ _)).2
    · cases h
  · have := hv.plain_eq rfl
    subst this
    have hb : ∃ b' l c, u' = .slice (some b') l c := by
      cases hu with
      | same h => exact ⟨_, _, _, rfl⟩
      | slice h hl hc => exact ⟨_, _, _, rfl⟩
    obtain ⟨b', l, c, rfl⟩ := hb
    rw [Sem.run_bind, eqGuard_ok op t x y _ _ ⟨by simp, by simp⟩, Result.andThen_ok]
    split at h
    · rename_i e hd; cases h
      refine ⟨?_, rfl⟩
      have hq := eq_sn (w := w) (hT.under _ _ hd) 9999
      exact (bin_eq (hq _ _ _ _ _)).1
    · rename_i e hd; cases h
      refine ⟨?_, rfl⟩
      have hq := eq_sn (w := w) (hT.under _ _ hd) 9999
      exact (bin_eq (hq _ _ _ _ _)).2
    · cases h
  · cases h
theorem afield_sound {s : TypeId} {f : Nat} {v u u' : Value} (h : afield T s u f = some v) (hu : VR m u u') :
    ∃ v', (Instr.fieldAt s u' f).run P w = .ok v' w ∧ VR m v v' := by
  unfold afield at h
  split at h
  · rename_i b off fields hd
    split at h
    · rename_i fd hf
      split at h
      · rename_i n hn
        cases h
        cases hu with
        | same h => simp [plain] at h
        | ptr hb hmp =>
          rename_i L
          refine ⟨.pointer (some ⟨L.c, L.o + (off + fd.offset), none⟩), ?_, .ptr hb hmp⟩
          simp [Instr.fieldAt, run_under hT hd, hf, Instr.sureAddr, fieldPlace, run_size hT hn, Addr.add_mid, Nat.add_assoc]
      · cases h
    · cases h
  · cases h
theorem aindexAddr_sound {t : TypeId} {v u u' i i' : Value} (h : aindexAddr T t u i = some v) (hu : VR m u u') (hi : VR m i i') :
    ∃ v', (Instr.indexAt t u' i').run P w = .ok v' w ∧ VR m v v' := by
  unfold aindexAddr at h
  split at h
  · rename_i k n
    have := hi.plain_eq rfl
    subst this
    split at h
    · rename_i e b off len cap hd
      split at h
      · rename_i sz hn
        cases hb : n.blt len
        · rw [hb] at h; cases h
        · rw [hb] at h
          simp only [cond_true] at h
          cases h
          have hlt : n < len := by simpa [Nat.blt_eq] using hb
          cases hu with
          | same h => simp [plain] at h
          | slice hm hmp hc =>
            rename_i q cap' L
            have hq : q = L.o + off := by
              rcases hc with ⟨_, _, h⟩ | ⟨_, _, _, h⟩
              · exact h
              · omega
            subst hq
            refine ⟨.pointer (some ⟨L.c, L.o + (off + n * sz), none⟩), ?_, .ptr hm hmp⟩
            simp [Instr.indexAt, asIntOf, run_under hT hd, hlt, run_size hT hn, Addr.add_mid, Nat.add_assoc]
      · cases h
    · rename_i len e b off hd
      split at h
      · rename_i sz hn
        cases hb : n.blt len
        · rw [hb] at h; cases h
        · rw [hb] at h
          simp only [cond_true] at h
          cases h
          have hlt : n < len := by simpa [Nat.blt_eq] using hb
          cases hu with
          | same h => simp [plain] at h
          | ptr hm hmp =>
            rename_i L
            refine ⟨.pointer (some ⟨L.c, L.o + (off + n * sz), none⟩), ?_, .ptr hm hmp⟩
            simp [Instr.indexAt, asIntOf, run_under hT hd, Instr.sureAddr, hlt, run_size hT hn, Addr.add_mid, Nat.add_assoc]
      · cases h
    · cases h
  · cases h
theorem aindex_sound {t : TypeId} {v u u' i i' : Value} (h : aindex T t u i = some v) (hu : VR m u u') (hi : VR m i i') :
    ∃ v', (Instr.index t u' i').run P w = .ok v' w ∧ VR m v v' := by
  unfold aindex at h
  split at h
  · rename_i k n
    have := hi.plain_eq rfl
    subst this
    split at h
    · rename_i len e cs hd
      split at h
      · rename_i sz hn
        cases hb : n.blt len
        · rw [hb] at h; cases h
        · rw [hb] at h
          simp only [cond_true] at h
          have hlt : n < len := by simpa [Nat.blt_eq] using hb
          cases hu with
          | same h => simp [plain] at h
          | agg hs hv =>
            obtain ⟨v', h1, h2⟩ := apart_sound (w := w) hT h (VRs.of_arr hs hv)
            refine ⟨v', ?_, h2⟩
            simp [Instr.index, asIntOf, run_under hT hd, hlt, run_size hT hn, h1]
      · cases h
    · cases h
  · cases h
omit hT in
theorem sliceBound_ok (k : IntKind) (n y : Nat) (c : BoundsCode) (h : n ≤ y) : (Instr.sliceBound (.int k (n : Int)) y c).run P w = .ok n w := by
  simp [Instr.sliceBound, asIntOf, h]
omit hT in
theorem bounds_ok {isS : Bool} {len cap l h : Nat} {lo hi : Option Value}
    (hlo : (match lo with | none => some 0 | some (.int _ (.ofNat l)) => some l | _ => none) = some l) (hhi : (match hi with | none => some len | some (.int _ (.ofNat h)) => some h | _ => none) = some h)
    (h1 : l ≤ h) (h2 : h ≤ cap) : (Instr.sliceBounds isS len cap lo hi none).run P w = .ok (l, h, cap) w := by
  unfold Instr.sliceBounds
  split at hlo <;> cases hlo <;> split at hhi <;> cases hhi <;> simp [sliceBound_ok _ _ _ _ h1, sliceBound_ok _ _ _ _ h2, Int.ofNat_eq_natCast]
omit hT in
theorem VRo.lo {o o' : Option Value} {l : Nat} {n : Nat} (h : (match o with | none => some n | some (.int _ (.ofNat l)) => some l | _ => none) = some l) (hv : ∀ v, o = some v → ∃ v', o' = some v' ∧ VR m v v') (hn : o = none → o' = none) : o' = o := by
  cases o with
  | none => exact hn rfl
  | some v =>
    obtain ⟨v', rfl, hvv⟩ := hv v rfl
    split at h
    · rename_i h0; cases h0
    · rename_i h0; cases h0; rw [hvv.plain_eq rfl]
    · cases h
theorem aslice_sound {t : TypeId} {u u' v : Value} {lo hi mx lo' hi' mx' : Option Value} (h : aslice T t u lo hi mx = some v) (hu : VR m u u')
    (hlo : ∀ v, lo = some v → ∃ v', lo' = some v' ∧ VR m v v') (hlo0 : lo = none → lo' = none) (hhi : ∀ v, hi = some v → ∃ v', hi' = some v' ∧ VR m v v') (hhi0 : hi = none → hi' = none) (hmx : mx = none → mx' = none) :
    ∃ v', (Instr.sliceAt t u' lo' hi' mx').run P w = .ok v' w ∧ VR m v v' := by
  unfold aslice at h
  split at h
  · cases h
  · rw [hmx rfl]
    split at h
    · rename_i e a len cap hd
      split at h
      · rename_i size l hh hn h1 h2
        have e1 := VRo.lo h1 hlo hlo0
        have e2 := VRo.lo h2 hhi hhi0
        subst e1 e2
        cases hle : l.ble hh
        · rw [hle] at h; cases h
        rw [hle] at h
        simp only [cond_true] at h
        have hle' : l ≤ hh := by simpa using hle
        cases hun : unk.ble cap
        · rw [hun] at h
          simp only [cond_false] at h
          cases hle2 : hh.ble cap
          · rw [hle2] at h; cases h
          rw [hle2] at h
          simp only [cond_true] at h
          cases h
          have hle2' : hh ≤ cap := by simpa using hle2
          cases hu with
          | same hp =>
            cases a with
            | some a => simp [plain] at hp
            | none =>
              refine ⟨.slice none (hh - l) (cap - l), ?_, ?_⟩
              · simp [Instr.sliceAt, run_under hT hd, Instr.slice, bounds_ok h1 h2 hle' hle2', run_size hT hn]
              · have : (bif cap.beq l then none else Option.map (fun x => Addr.add x (l * size)) none) = (none : Option Addr) := by cases cap.beq l <;> rfl
                rw [this]; exact .same rfl
          | slice hm hmp hc =>
            rename_i b off q cap' L
            rcases hc with ⟨hk, rfl, rfl⟩ | ⟨rfl, _⟩
            · refine ⟨.slice (some (if cap' = l then ⟨L.c, L.o + off, none⟩ else ⟨L.c, L.o + (off + l * size), none⟩)) (hh - l) (cap' - l), ?_, ?_⟩
              · simp [Instr.sliceAt, run_under hT hd, Instr.slice, bounds_ok h1 h2 hle' hle2', run_size hT hn, Addr.add_mid, Nat.add_assoc]
                split <;> rfl
              · cases hb : cap'.beq l
                · have : ¬ cap' = l := fun e => by simp [e] at hb
                  rw [if_neg this]
                  simp only [cond_false, Option.map_some, Addr.add_mid]
                  exact .slice hm hmp (.inl ⟨by omega, rfl, rfl⟩)
                · have : cap' = l := by simpa using hb
                  rw [if_pos this]
                  exact .slice hm hmp (.inl ⟨by omega, rfl, rfl⟩)
            · rw [Nat.ble_eq_true_of_le (Nat.le_add_right _ _)] at hun; cases hun
        · rw [hun] at h
          simp only [cond_true] at h
          have hcap : unk ≤ cap := Nat.le_of_ble_eq_true hun
          split at h
          · rename_i b off
            cases hc2 : (hh.ble len && cap.beq (unk + size))
            · rw [hc2] at h; cases h
            rw [hc2] at h
            simp only [cond_true] at h
            cases h
            simp only [Bool.and_eq_true, Nat.ble_eq, Nat.beq_eq] at hc2
            obtain ⟨hhl, hcu⟩ := hc2
            cases hu with
            | same hp => simp [plain] at hp
            | slice hm hmp hc =>
              rename_i q cap' L
              rcases hc with ⟨hk, _, _⟩ | ⟨hce, hlc, hfit, hq⟩
              · omega
              · have hes : L.esz = size := by omega
                refine ⟨.slice (some (if cap' = l then ⟨L.c, q, none⟩ else ⟨L.c, q + l * size, none⟩)) (hh - l) (cap' - l), ?_, ?_⟩
                · simp [Instr.sliceAt, run_under hT hd, Instr.slice, bounds_ok h1 h2 hle' (Nat.le_trans hhl hlc), run_size hT hn, Addr.add_mid]
                  split <;> rfl
                · have hmul : l ≤ cap' → l * L.esz + (cap' - l) * L.esz = cap' * L.esz := fun h => by rw [← Nat.add_mul]; congr 1; omega
                  have hm2 := hmul (by omega)
                  by_cases hcl : cap' = l
                  · rw [if_pos hcl]
                    refine .slice hm hmp (.inr ⟨by rw [hes], by omega, ?_, .inl (by omega)⟩)
                    subst hcl
                    simp; omega
                  · rw [if_neg hcl]
                    refine .slice hm hmp (.inr ⟨by rw [hes], by omega, ?_, ?_⟩)
                    · rw [← hes]; omega
                    · rcases hq with h0 | h0
                      · exact .inl (by omega)
                      · exact .inr (by omega)
          · cases h
      · cases h
    · rename_i n e b off hd
      split at h
      · rename_i size l hh hn h1 h2
        have e1 := VRo.lo h1 hlo hlo0
        have e2 := VRo.lo h2 hhi hhi0
        subst e1 e2
        cases hc : (l.ble hh && hh.ble n && n.blt unk)
        · rw [hc] at h; cases h
        rw [hc] at h
        simp only [cond_true] at h
        cases h
        simp only [Bool.and_eq_true, Nat.ble_eq, Nat.blt_eq] at hc
        obtain ⟨⟨hle, hle2⟩, hnu⟩ := hc
        cases hu with
        | same hp => simp [plain] at hp
        | ptr hm hmp =>
          rename_i L
          refine ⟨.slice (some (if n = l then ⟨L.c, L.o + off, none⟩ else ⟨L.c, L.o + (off + l * size), none⟩)) (hh - l) (n - l), ?_, ?_⟩
          · simp [Instr.sliceAt, run_under hT hd, Instr.sureAddr, bounds_ok h1 h2 hle hle2, run_size hT hn, Addr.add_mid, Nat.add_assoc]
          · cases hb : n.beq l
            · have : ¬ n = l := fun e => by simp [e] at hb
              rw [if_neg this]
              simp only [cond_false, Addr.add_mid]
              exact .slice hm hmp (.inl ⟨by omega, rfl, rfl⟩)
            · have : n = l := by simpa using hb
              rw [if_pos this]
              exact .slice hm hmp (.inl ⟨by omega, rfl, rfl⟩)
      · cases h
    · cases h
end
end Go.Ev
