/- Memory under other names: each operation. -/
import Derived.Test.YtahikechkggbfaaEvMa
namespace Go.Ev
open Go
set_option linter.unusedVariables false
set_option linter.unusedSimpArgs false
/-- May a row be nil under another name? -/
def mn : Value → Bool | .slice (some _) 0 _ => true | _ => false
section
variable {P : Program} {T : Tab} {e : Em} {h H : Heap}
theorem apart_rn {t : TypeId} {xs ys : Array Value} {off : Nat} {v : Value} (hv : apart T t xs off = some v) (hr : RNs e xs.toList ys.toList) : ∃ v', apart T t ys off = some v' ∧ RN e v v' := by
  unfold apart at hv ⊢
  split at hv
  · rename_i d n hd hn
    try simp only [hd, hn]
    cases hr' : isRow d
    · rw [hr'] at hv
      simp only [cond_false] at hv ⊢
      obtain ⟨y, hy, hvy⟩ := hr.2 off v (by simpa using hv)
      exact ⟨y, by simpa using hy, hvy⟩
    · rw [hr'] at hv
      simp only [cond_true] at hv ⊢
      cases hv
      refine ⟨_, rfl, RNs.agg ?_⟩
      have := (hr.take (off + n)).drop off
      simpa [Array.toList_extract, List.extract_eq_take_drop, List.drop_take] using this
  · cases hv
theorem aload_rn {t : TypeId} {v u u' : Value} (hv : aload T t u h = some v) (hn : HN e h H) (hu : RN e u u') : ∃ v', aload T t u' H = some v' ∧ RN e v v' := by
  unfold aload at hv
  split at hv
  · rename_i b off
    split at hv
    · rename_i o d n ho hd hn'
      cases hu with
      | same q => simp [plain] at q
      | ptr hb =>
        obtain ⟨cs, g1, g2⟩ := hn.blk _ _ _ ho hb
        simp only [aload, g1, hd, hn']
        cases hd' : isRow d
        · rw [hd'] at hv
          simp only [cond_false] at hv ⊢
          exact g2.2 off v hv
        · rw [hd'] at hv
          simp only [cond_true] at hv ⊢
          have hv2 := (g2.drop off).take n
          rw [← hv2.1]
          cases hlen : ((o.cells.drop off).take n).length.beq n
          · rw [hlen] at hv; cases hv
          rw [hlen] at hv
          cases hv
          exact ⟨_, rfl, RNs.agg (by simpa using hv2)⟩
    · cases hv
  · cases hv
theorem aput_rn {b c off : Nat} {cs cs' : List Value} {h1 : Heap} (hv : aput b off cs h = some h1) (hn : HN e h H) (hb : e b = some (some c)) (hc : RNs e cs cs') :
    ∃ H1, aput c off cs' H = some H1 ∧ HN e h1 H1 ∧ Ex e e h H h1 H1 := by
  unfold aput at hv ⊢
  split at hv
  · rename_i o ho
    obtain ⟨l, g1, g2⟩ := hn.blk _ _ _ ho hb
    try simp only [g1]
    cases hcnd : (!o.ro && cs.all one && (off + cs.length).ble o.cells.length)
    · rw [hcnd] at hv; cases hv
    · rw [hcnd] at hv
      cases hv
      simp only [Bool.and_eq_true] at hcnd
      rw [hc.all_one hcnd.1.2, ← hc.1, ← g2.1, hcnd.2, hcnd.1.1]
      simp only [Bool.and_self, cond_true]
      obtain ⟨k1, k2⟩ := hn.put ho hb (g2.splice hc off) o.elem false
      exact ⟨_, rfl, k1, k2⟩
  · cases hv
theorem astore_rn {t : TypeId} {u u' x x' : Value} {h1 : Heap} (hv : astore T t u x h = some h1) (hn : HN e h H) (hu : RN e u u') (hx : RN e x x') :
    ∃ H1, astore T t u' x' H = some H1 ∧ HN e h1 H1 ∧ Ex e e h H h1 H1 := by
  unfold astore at hv
  split at hv
  · rename_i b off
    split at hv
    · rename_i n hn'
      cases hc : x.cells.size.beq n
      · rw [hc] at hv; cases hv
      · rw [hc] at hv
        simp only [cond_true] at hv
        cases hu with
        | same q => simp [plain] at q
        | ptr hb =>
          simp only [astore, hn', hx.cells.1, hc, cond_true]
          exact aput_rn hv hn hb (RNs.cells hx)
    · cases hv
  · cases hv
theorem ibin_plain {op : BinOp} {k : IntKind} {a b : Int} {r : Value} (hv : ibin op k a b = some r) : plain r = true := by
  unfold ibin at hv
  split at hv <;> first | (cases hv; done) | (cases hv; rfl) | (cases hq : (b == 0) <;> rw [hq] at hv <;> cases hv; rfl)
theorem ishift_plain {op : BinOp} {k : IntKind} {a b : Int} {r : Value} (hv : ishift op k a b = some r) : plain r = true := by
  unfold ishift at hv
  cases hq : decide (b < 0)
  · rw [hq] at hv
    simp only [cond_false] at hv
    split at hv <;> cases hv <;> rfl
  · rw [hq] at hv; cases hv
theorem abin_rn {op : BinOp} {t : TypeId} {u u' v v' r : Value} (hv : abin T op t u v = some r) (hu : RN e u u') (hw : RN e v v') (mu : mn u = false) (mv : mn v = false) :
    abin T op t u' v' = some r ∧ plain r = true := by
  have hpl : plain r = true := by
    unfold abin at hv
    split at hv
    · rename_i k a k' b
      cases hs : isShift op
      · rw [hs] at hv
        simp only [cond_false] at hv
        cases hk : (k == k')
        · rw [hk] at hv; cases hv
        · rw [hk] at hv; exact ibin_plain hv
      · rw [hs] at hv; exact ishift_plain hv
    all_goals first | (split at hv <;> first | (cases hv; rfl) | cases hv) | cases hv
  refine ⟨?_, hpl⟩
  cases hu with
  | same hp =>
    cases hw with
    | same hq => exact hv
    | ptr hb => cases u <;> first | exact hv | (simp [plain] at hp; done) | (simp [abin] at hv; done) | (rename_i a; cases a <;> first | exact hv | (simp [plain] at hp; done) | (simp [abin] at hv; done)) | (rename_i a _ _; cases a <;> first | exact hv | (simp [plain] at hp; done) | (simp [abin] at hv; done))
    | slice hb =>
      rename_i b off c n cap
      cases n with
      | zero => simp [mn] at mv
      | succ n => cases u <;> first | exact hv | (simp [plain] at hp; done) | (simp [abin] at hv; done) | (rename_i a; cases a <;> first | exact hv | (simp [plain] at hp; done) | (simp [abin] at hv; done)) | (rename_i a _ _; cases a <;> first | exact hv | (simp [plain] at hp; done) | (simp [abin] at hv; done))
    | nils hb hc => simp [mn] at mv
    | agg => cases u <;> first | (simp [abin] at hv; done) | (simp [plain] at hp; done) | (rename_i a; cases a <;> first | exact hv | (simp [plain] at hp; done) | (simp [abin] at hv; done)) | (rename_i a _ _; cases a <;> first | exact hv | (simp [plain] at hp; done) | (simp [abin] at hv; done))
    | tuple => cases u <;> first | (simp [abin] at hv; done) | (simp [plain] at hp; done) | (rename_i a; cases a <;> first | exact hv | (simp [plain] at hp; done) | (simp [abin] at hv; done)) | (rename_i a _ _; cases a <;> first | exact hv | (simp [plain] at hp; done) | (simp [abin] at hv; done))
    | func => cases u <;> first | (simp [abin] at hv; done) | (simp [plain] at hp; done) | (rename_i a; cases a <;> first | exact hv | (simp [plain] at hp; done) | (simp [abin] at hv; done)) | (rename_i a _ _; cases a <;> first | exact hv | (simp [plain] at hp; done) | (simp [abin] at hv; done))
    | iface => cases u <;> first | (simp [abin] at hv; done) | (simp [plain] at hp; done) | (rename_i a; cases a <;> first | exact hv | (simp [plain] at hp; done) | (simp [abin] at hv; done)) | (rename_i a _ _; cases a <;> first | exact hv | (simp [plain] at hp; done) | (simp [abin] at hv; done))
  | ptr hb =>
    cases hw with
    | same hq => cases v <;> first | exact hv | (simp [plain] at hq; done) | (simp [abin] at hv; done) | (rename_i a; cases a <;> first | exact hv | (simp [plain] at hq; done) | (simp [abin] at hv; done)) | (rename_i a _ _; cases a <;> first | exact hv | (simp [plain] at hq; done) | (simp [abin] at hv; done))
    | ptr hb2 => simp [abin] at hv
    | _ => simp [abin] at hv
  | slice hb =>
    cases hw with
    | same hq => cases v <;> first | exact hv | (simp [plain] at hq; done) | (simp [abin] at hv; done) | (rename_i a; cases a <;> first | exact hv | (simp [plain] at hq; done) | (simp [abin] at hv; done)) | (rename_i a _ _; cases a <;> first | exact hv | (simp [plain] at hq; done) | (simp [abin] at hv; done))
    | _ => simp [abin] at hv
  | nils hb hc => simp [mn] at mu
  | _ => simp [abin] at hv
theorem afield_rn {s : TypeId} {f : Nat} {v u u' : Value} (hv : afield T s u f = some v) (hu : RN e u u') : ∃ v', afield T s u' f = some v' ∧ RN e v v' := by
  unfold afield at hv
  split at hv
  · rename_i b off fields hs
    cases hu with
    | same q => simp [plain] at q
    | ptr hb =>
      simp only [afield, hs]
      split at hv
      · rename_i fd hfd
        try simp only [hfd]
        split at hv
        · rename_i n hn
          cases hv
          try simp only [hn]
          exact ⟨_, rfl, .ptr hb⟩
        · cases hv
      · cases hv
  · cases hv
theorem aindexAddr_rn {t : TypeId} {v u u' i i' : Value} (hv : aindexAddr T t u i = some v) (hu : RN e u u') (hi : RN e i i') : ∃ v', aindexAddr T t u' i' = some v' ∧ RN e v v' := by
  unfold aindexAddr at hv
  split at hv
  · rename_i k n
    cases hi.plain_eq rfl
    unfold aindexAddr
    simp only
    split at hv
    · rename_i el b off len cap hs
      split at hv
      · rename_i sz hsz
        cases hb : n.blt len
        · rw [hb] at hv; cases hv
        rw [hb] at hv
        cases hv
        cases hu with
        | same q => simp [plain] at q
        | slice hm =>
          simp only [hs, hsz, hb, cond_true]
          exact ⟨_, rfl, .ptr hm⟩
        | nils hm hc => cases hb
      · cases hv
    · rename_i len el b off hs
      split at hv
      · rename_i sz hsz
        cases hb : n.blt len
        · rw [hb] at hv; cases hv
        rw [hb] at hv
        cases hv
        cases hu with
        | same q => simp [plain] at q
        | ptr hm =>
          simp only [hs, hsz, hb, cond_true]
          exact ⟨_, rfl, .ptr hm⟩
      · cases hv
    · cases hv
  · cases hv
theorem aindex_rn {t : TypeId} {v u u' i i' : Value} (hv : aindex T t u i = some v) (hu : RN e u u') (hi : RN e i i') : ∃ v', aindex T t u' i' = some v' ∧ RN e v v' := by
  unfold aindex at hv
  split at hv
  · rename_i k n
    cases hi.plain_eq rfl
    unfold aindex
    simp only
    split at hv
    · rename_i len el cs hs
      split at hv
      · rename_i sz hsz
        cases hb : n.blt len
        · rw [hb] at hv; cases hv
        rw [hb] at hv
        cases hu with
        | same q => simp [plain] at q
        | agg hs2 h2 =>
          simp only [hs, hsz, hb, cond_true]
          exact apart_rn hv (RNs.of_arr hs2 h2)
      · cases hv
    · cases hv
  · cases hv
/-- Bounds of a part. -/
def RNo (e : Em) : Option Value → Option Value → Prop
  | none, none => True
  | some v, some v' => RN e v v'
  | _, _ => False
def bnd (d : Nat) : Option Value → Option Nat
  | none => some d
  | some (.int _ (.ofNat l)) => some l
  | _ => none
theorem RNo.bound {o o' : Option Value} (ho : RNo e o o') (d : Nat) {l : Nat} (hl : bnd d o = some l) : o' = o := by
  cases o with
  | none => cases o' with
    | none => rfl
    | some _ => exact ho.elim
  | some v => cases o' with
    | none => exact ho.elim
    | some v' =>
      have : plain v = true := by
        unfold bnd at hl
        split at hl
        · rename_i q; cases q
        · rename_i q; cases q; rfl
        · cases hl
      rw [RN.plain_eq ho this]
theorem aslice_rn {t : TypeId} {u u' v : Value} {lo hi mx lo' hi' mx' : Option Value} (hv : aslice T t u lo hi mx = some v) (hu : RN e u u') (hlo : RNo e lo lo') (hhi : RNo e hi hi') (hmx : RNo e mx mx') :
    ∃ v', aslice T t u' lo' hi' mx' = some v' ∧ RN e v v' := by
  unfold aslice at hv
  split at hv
  · cases hv
  cases mx' with
  | some _ => exact hmx.elim
  | none =>
  split at hv
  · rename_i el a len cap hs
    split at hv
    · rename_i size l hb hsz hl hh
      have e1 := hlo.bound _ hl
      have e2 := hhi.bound _ hh
      subst e1 e2
      cases hle : l.ble hb
      · rw [hle] at hv; cases hv
      rw [hle] at hv
      simp only [cond_true] at hv
      cases hu with
      | same q =>
        refine ⟨v, by unfold aslice; simp only [hs, hsz, hl, hh, hle, cond_true]; exact hv, ?_⟩
        cases a with
        | some a => simp [plain] at q
        | none =>
          cases hun : unk.ble cap
          · rw [hun] at hv
            simp only [cond_false] at hv
            cases hhc : hb.ble cap
            · rw [hhc] at hv; cases hv
            rw [hhc] at hv
            cases hv
            refine .same ?_
            cases hcl : cap.beq l <;> rfl
          · rw [hun] at hv; cases hv
      | slice hm =>
        rename_i b off c
        cases hun : unk.ble cap
        · rw [hun] at hv
          simp only [cond_false] at hv
          cases hhc : hb.ble cap
          · rw [hhc] at hv; cases hv
          rw [hhc] at hv
          simp only [cond_true] at hv
          unfold aslice
          simp only [hs, hsz, hl, hh, hle, hun, hhc, cond_true, cond_false]
          cases hcl : cap.beq l
          · rw [hcl] at hv; cases hv
            exact ⟨_, rfl, by simp only [cond_false, Option.map_some, Addr.add_mid]; exact .slice hm⟩
          · rw [hcl] at hv; cases hv
            exact ⟨_, rfl, show RN e (.slice (some ⟨b, off, none⟩) _ _) (.slice (some ⟨c, off, none⟩) _ _) from .slice hm⟩
        · rw [hun] at hv
          simp only [cond_true] at hv
          cases hc2 : (hb.ble len && cap.beq (unk + size))
          · rw [hc2] at hv; cases hv
          rw [hc2] at hv
          cases hv
          unfold aslice
          simp only [hs, hsz, hl, hh, hle, hun, hc2, cond_true]
          exact ⟨_, rfl, .slice hm⟩
      | nils hm hc =>
        rename_i b off
        have hun : unk.ble cap = true := (fun h => Nat.ble_eq_true_of_le h) hc
        rw [hun] at hv
        simp only [cond_true] at hv
        cases hc2 : (hb.ble 0 && cap.beq (unk + size))
        · rw [hc2] at hv; cases hv
        rw [hc2] at hv
        cases hv
        simp only [Bool.and_eq_true, Nat.ble_eq, Nat.beq_eq] at hc2
        have h0 : hb = 0 := by omega
        have hl0 : l = 0 := by have := Nat.le_of_ble_eq_true hle; omega
        subst h0 hl0
        unfold aslice
        have hu0 : unk.ble 0 = false := by decide
        refine ⟨.slice none 0 0, ?_, ?_⟩
        · simp only [hs, hsz, hl, hu0, cond_false]
          cases hi' with
          | none => rfl
          | some v =>
            cases v with
            | int k z => cases z with
              | ofNat m => have : m = 0 := Option.some.inj hh
                           subst this; rfl
              | negSucc m => cases hh
            | _ => cases hh
        · exact RN.nils (off := off + 0 * size) hm (by omega)
    · cases hv
  · rename_i n el b off hs
    split at hv
    · rename_i size l hb hsz hl hh
      have e1 := hlo.bound _ hl
      have e2 := hhi.bound _ hh
      subst e1 e2
      cases hc : (l.ble hb && hb.ble n && n.blt unk)
      · rw [hc] at hv; cases hv
      rw [hc] at hv
      cases hv
      cases hu with
      | same q => simp [plain] at q
      | ptr hm =>
        rename_i c
        unfold aslice
        simp only [hs, hsz, hl, hh, hc, cond_true]
        cases hnl : n.beq l
        · exact ⟨_, rfl, by simp only [cond_false, Addr.add_mid]; exact .slice hm⟩
        · exact ⟨_, rfl, show RN e (.slice (some ⟨b, off, none⟩) _ _) (.slice (some ⟨c, off, none⟩) _ _) from .slice hm⟩
    · cases hv
  · cases hv
inductive RNp (e : Em) : List (Nat × Value) → List (Nat × Value) → Prop where
  | nil : RNp e [] []
  | cons {i : Nat} {v v' : Value} {l l' : List (Nat × Value)} (h : RN e v v') (k : RNp e l l') : RNp e ((i, v) :: l) ((i, v') :: l')
theorem foldset_rn (off : Nat) : ∀ (l l' : List Value) (k : Nat) (cells cells' : Array Value), RNs e l l' → RNs e cells.toList cells'.toList →
    RNs e ((l.zipIdx k).foldl (fun cs (p : Value × Nat) => cs.setIfInBounds (off + p.2) p.1) cells).toList ((l'.zipIdx k).foldl (fun cs (p : Value × Nat) => cs.setIfInBounds (off + p.2) p.1) cells').toList := by
  intro l
  induction l with
  | nil =>
    intro l' k cells cells' h hc
    have : l' = [] := List.eq_nil_of_length_eq_zero (by have := h.1; simp at this; exact this.symm)
    subst this
    simpa using hc
  | cons x l ih =>
    intro l' k cells cells' h hc
    cases l' with
    | nil => have := h.1; simp at this
    | cons y l' =>
      obtain ⟨y', hy, hv⟩ := h.2 0 x (by simp)
      simp at hy
      subst hy
      simp only [List.zipIdx_cons, List.foldl_cons]
      refine ih l' (k + 1) _ _ ⟨by have := h.1; simpa using this, fun i z hz => by simpa using h.2 (i + 1) z (by simpa using hz)⟩ ?_
      rw [Array.toList_setIfInBounds, Array.toList_setIfInBounds]
      exact hc.set _ hv
theorem fill_rn {place : Nat → Option (Nat × Nat)} : ∀ (parts parts' : List (Nat × Value)) (cells cells' r : Array Value), Instr.fill place cells parts = some r → RNs e cells.toList cells'.toList → RNp e parts parts' →
    ∃ r', Instr.fill place cells' parts' = some r' ∧ RNs e r.toList r'.toList := by
  intro parts
  induction parts with
  | nil =>
    intro parts' cells cells' r h hc hp
    cases hp
    simp only [Instr.fill] at h ⊢
    cases h
    exact ⟨_, rfl, hc⟩
  | cons p parts ih =>
    intro parts' cells cells' r h hc hp
    cases hp with
    | cons hv hk =>
      rename_i i v v' l'
      simp only [Instr.fill] at h ⊢
      split at h
      · cases h
      · rename_i off size hpl
        simp only [hv.cells.1, ← show cells.size = cells'.size by simpa using hc.1]
        split at h
        · cases h
        · rename_i hcond
          rw [if_neg hcond]
          refine ih l' _ _ r h ?_ hk
          have := foldset_rn (e := e) off v.cells.toList v'.cells.toList 0 cells cells' (RNs.cells hv) hc
          rw [← Array.foldl_toList, ← Array.foldl_toList, Array.toList_zipIdx, Array.toList_zipIdx]
          exact this
theorem closed_rns {z : Value} (hz : closed z = true) : RNs e z.cells.toList z.cells.toList := RNs.cells (RN.of_closed hz)
theorem zeros_rns {z : List Value} (hz : RNs e z z) (n : Nat) : RNs e (zerosOf z n) (zerosOf z n) := by
  refine ⟨rfl, fun i x hx => ⟨x, hx, ?_⟩⟩
  have hm : x ∈ z := by
    have := List.mem_of_getElem? hx
    unfold zerosOf at this
    split at this
    · have := List.eq_of_mem_replicate this; subst this; simp
    · obtain ⟨l, h1, h2⟩ := List.mem_flatten.1 this
      have := List.eq_of_mem_replicate h1; subst this; exact h2
  obtain ⟨j, hj⟩ := List.mem_iff_getElem?.1 hm
  obtain ⟨y, hy, hv⟩ := hz.2 j x hj
  rw [hj] at hy; cases hy
  exact hv
theorem abuild_rn {t : TypeId} {parts parts' : List (Nat × Value)} {v : Value} (hv : abuild T t parts = some v) (hp : RNp e parts parts') : ∃ v', abuild T t parts' = some v' ∧ RN e v v' := by
  unfold abuild at hv ⊢
  split at hv
  · rename_i fields z hs hz
    try simp only [hs, hz]
    cases hc : closed z
    · rw [hc] at hv; cases hv
    rw [hc] at hv
    simp only [cond_true] at hv ⊢
    split at hv
    · rename_i ps hps
      try simp only [hps]
      split at hv
      · rename_i cs hcs
        cases hv
        obtain ⟨r', g1, g2⟩ := fill_rn _ _ _ _ _ hcs (closed_rns hc) hp
        try simp only [g1]
        exact ⟨_, rfl, RNs.agg g2⟩
      · cases hv
    · cases hv
  · rename_i n el z hs hz
    try simp only [hs, hz]
    cases hc : closed z
    · rw [hc] at hv; cases hv
    rw [hc] at hv
    simp only [cond_true] at hv ⊢
    split at hv
    · rename_i size hsz
      try simp only [hsz]
      split at hv
      · rename_i cs hcs
        cases hv
        obtain ⟨r', g1, g2⟩ := fill_rn _ _ _ _ _ hcs (closed_rns hc) hp
        try simp only [g1]
        exact ⟨_, rfl, RNs.agg g2⟩
      · cases hv
    · cases hv
  · cases hv
/-- What makes one block. -/
def Mk1 (e : Em) (h H : Heap) (v : Value) (h1 : Heap) (v' : Value) (H1 : Heap) : Prop := ∃ e1, HN e1 h1 H1 ∧ Ex e e1 h H h1 H1 ∧ RN e1 v v'
theorem HN.mk_ptr (hn : HN e h H) {o O : Ob} (he : O.elem = o.elem) (hr : O.ro = o.ro) (hc : RNs e o.cells O.cells) : Mk1 e h H (.pointer (some ⟨h.n, 0, none⟩)) (h.push o) (.pointer (some ⟨H.n, 0, none⟩)) (H.push O) := by
  obtain ⟨h1, h2⟩ := hn.push he hr hc
  exact ⟨_, h1, h2, .ptr (by simp [Em.add])⟩
theorem HN.mk_sl (hn : HN e h H) {o O : Ob} (he : O.elem = o.elem) (hr : O.ro = o.ro) (hc : RNs e o.cells O.cells) (n cap : Nat) : Mk1 e h H (.slice (some ⟨h.n, 0, none⟩) n cap) (h.push o) (.slice (some ⟨H.n, 0, none⟩) n cap) (H.push O) := by
  obtain ⟨h1, h2⟩ := hn.push he hr hc
  exact ⟨_, h1, h2, .slice (by simp [Em.add])⟩
theorem abuildSlice_rn {t : TypeId} {len : Nat} {parts parts' : List (Nat × Value)} {v : Value} {h1 : Heap} (hv : abuildSlice T t len parts h = some (v, h1)) (hn : HN e h H) (hp : RNp e parts parts') :
    ∃ v' H1, abuildSlice T t len parts' H = some (v', H1) ∧ Mk1 e h H v h1 v' H1 := by
  unfold abuildSlice at hv ⊢
  split at hv
  · rename_i el hs
    try simp only [hs]
    split at hv
    · rename_i s z hsz hz
      try simp only [hsz, hz]
      cases hc : ((len * (s + 1)).ble 16777216 && closed z && z.cells.size.beq (s + 1))
      · rw [hc] at hv; cases hv
      rw [hc] at hv
      simp only [cond_true] at hv ⊢
      simp only [Bool.and_eq_true] at hc
      split at hv
      · rename_i cs hcs
        cases hv
        obtain ⟨r', g1, g2⟩ := fill_rn _ _ _ _ _ hcs (zeros_rns (closed_rns hc.1.2) len) hp
        have g1' : Instr.fill (fun i => some (i * (s + 1), s + 1)) (zerosOf z.cells.toList len).toArray parts' = some r' := g1
        simp only [g1']
        exact ⟨_, _, rfl, hn.mk_sl (o := ⟨cs.toList, el, false⟩) (O := ⟨r'.toList, el, false⟩) rfl rfl g2 _ _⟩
      · cases hv
    · cases hv
  · cases hv
theorem nats_plain {v : Value} {n : Nat} (hv : nats v = some n) : plain v = true := by unfold nats at hv; split at hv <;> first | rfl | cases hv
theorem amakeSlice_rn {t : TypeId} {l c l' c' v : Value} {h1 : Heap} (hv : amakeSlice T t l c h = some (v, h1)) (hn : HN e h H) (hl : RN e l l') (hc : RN e c c') :
    ∃ v' H1, amakeSlice T t l' c' H = some (v', H1) ∧ Mk1 e h H v h1 v' H1 := by
  unfold amakeSlice at hv
  split at hv
  · rename_i el l0 c0 hs hl0 hc0
    have e1 := hl.plain_eq (nats_plain hl0)
    have e2 := hc.plain_eq (nats_plain hc0)
    subst e1 e2
    unfold amakeSlice
    simp only [hs, hl0, hc0]
    split at hv
    · rename_i by_ s z hb hsz hz
      try simp only [hb, hsz, hz]
      cases hcc : (l0.ble c0 && (by_ * c0).ble 140737488355328 && c0.ble 4611686018427387904 && closed z)
      · rw [hcc] at hv; cases hv
      rw [hcc] at hv
      cases hv
      simp only [Bool.and_eq_true] at hcc
      exact ⟨_, _, rfl, hn.mk_sl (o := ⟨zerosOf z.cells.toList c0, el, false⟩) (O := ⟨zerosOf z.cells.toList c0, el, false⟩) rfl rfl (zeros_rns (closed_rns hcc.2) c0) _ _⟩
    · cases hv
  · cases hv
theorem asrc_rn {size n : Nat} {x x' : Value} {new : List Value} (hv : asrc size x h = some (n, new)) (hn : HN e h H) (hx : RN e x x') : ∃ new', asrc size x' H = some (n, new') ∧ RNs e new new' := by
  cases hx with
  | same hp =>
    have : asrc size x H = some (n, new) ∧ new.all plain = true := by
      unfold asrc at hv ⊢
      split at hv
      · rename_i n0 c0
        cases hb : n0.beq 0
        · rw [hb] at hv; cases hv
        · rw [hb] at hv; cases hv; exact ⟨rfl, rfl⟩
      · simp [plain] at hp
      · rename_i s
        cases hb : size.beq 1
        · rw [hb] at hv; cases hv
        · rw [hb] at hv; cases hv; refine ⟨rfl, ?_⟩
          rw [List.all_eq_true]
          intro y hy
          obtain ⟨_, _, rfl⟩ := List.mem_map.1 hy
          rfl
      · cases hv
    exact ⟨new, this.1, RNs.of_plain this.2⟩
  | slice hm =>
    rename_i b off c n0 cap
    simp only [asrc] at hv ⊢
    split at hv
    · rename_i o ho
      obtain ⟨cs, g1, g2⟩ := hn.blk _ _ _ ho hm
      try simp only [g1]
      have hv2 := (g2.drop off).take (n0 * size)
      rw [← hv2.1]
      cases hlen : ((o.cells.drop off).take (n0 * size)).length.beq (n0 * size)
      · rw [hlen] at hv; cases hv
      rw [hlen] at hv
      cases hv
      exact ⟨_, rfl, hv2⟩
    · cases hv
  | nils hm hc =>
    simp only [asrc] at hv ⊢
    split at hv
    · simp only [Nat.zero_mul, List.take_zero, List.length_nil, Nat.beq_refl, cond_true] at hv
      cases hv
      exact ⟨[], rfl, RNs.nil⟩
    · cases hv
  | _ => simp [asrc] at hv
theorem asrc_live {size n : Nat} {b off n' c : Nat} {new : List Value} (hv : asrc size (.slice (some ⟨b, off, none⟩) n' c) h = some (n, new)) : (h.get b).isSome := by
  simp only [asrc] at hv
  split at hv
  · rename_i o ho; rw [ho]; rfl
  · cases hv
theorem aappend_rn {st xt : TypeId} {s x s' x' v : Value} {h1 : Heap} (hv : aappend T st xt s x h = some (v, h1)) (hn : HN e h H) (hs : RN e s s') (hx : RN e x x') :
    ∃ v' H1, aappend T st xt s' x' H = some (v', H1) ∧ Mk1 e h H v h1 v' H1 := by
  unfold aappend at hv
  split at hv
  · rename_i el xd base len cap hst hxt
    cases hint : isIntD xd
    · rw [hint] at hv
      simp only [cond_false] at hv
      split at hv
      · rename_i s0 by_ z hsz hb hz
        split at hv
        · rename_i n new hsrc
          obtain ⟨new', k1, k2⟩ := asrc_rn hsrc hn hx
          split at hv
          · -- nil
            cases hc : (len.beq 0 && cap.beq 0)
            · rw [hc] at hv; cases hv
            rw [hc] at hv
            simp only [cond_true] at hv
            have e1 := hs.plain_eq rfl
            subst e1
            unfold aappend
            simp only [hst, hxt, hint, cond_false, hsz, hb, hz, k1, hc, cond_true]
            cases hn0 : n.beq 0
            · rw [hn0] at hv
              simp only [cond_false] at hv ⊢
              cases hbb : (n * (by_ + 1)).ble 140737488355328
              · rw [hbb] at hv; cases hv
              rw [hbb] at hv
              cases hv
              exact ⟨_, _, rfl, hn.mk_sl (o := ⟨new, el, false⟩) (O := ⟨new', el, false⟩) rfl rfl k2 _ _⟩
            · rw [hn0] at hv
              cases hv
              exact ⟨_, _, rfl, e, hn, Ex.refl _ _ _, .same rfl⟩
          · rename_i b off
            cases hbl : (blockOf x == some b)
            · rw [hbl] at hv
              simp only [cond_false] at hv
              split at hv
              · rename_i o ho
                cases hs with
                | same hp => simp [plain] at hp
                | slice hm =>
                  rename_i c
                  obtain ⟨cs, g1, g2⟩ := hn.blk _ _ _ ho hm
                  have hbl' : (blockOf x' == some c) = false := by
                    rw [beq_eq_false_iff_ne]
                    intro q
                    cases hx with
                    | same hp => cases x <;> first | (simp [blockOf] at q; done) | (rename_i a _ _; cases a <;> first | (simp [blockOf] at q; done) | simp [plain] at hp)
                    | slice hm2 =>
                      simp [blockOf] at q hbl
                      subst q
                      exact hbl (hn.inj _ _ _ hm2 hm (asrc_live hsrc) (by rw [ho]; rfl))
                    | _ => simp [blockOf] at q
                  unfold aappend
                  simp only [hst, hxt, hint, cond_false, hsz, hb, hz, k1, hbl', g1]
                  cases hro : o.ro
                  · rw [hro] at hv
                    simp only [cond_false] at hv ⊢
                    cases hun : unk.ble cap
                    · rw [hun] at hv
                      simp only [cond_false] at hv ⊢
                      cases hfit : (len + n).ble cap
                      · rw [hfit] at hv
                        simp only [cond_false] at hv ⊢
                        cases hn0 : n.beq 0
                        · rw [hn0] at hv
                          simp only [cond_false] at hv ⊢
                          rw [← g2.1]
                          cases hcc : ((off + len * (s0 + 1)).ble o.cells.length && ((len + n) * (by_ + 1)).ble 140737488355328)
                          · rw [hcc] at hv; cases hv
                          rw [hcc] at hv
                          cases hv
                          exact ⟨_, _, rfl, hn.mk_sl (o := ⟨(o.cells.drop off).take (len * (s0 + 1)) ++ new, el, false⟩) (O := ⟨(cs.drop off).take (len * (s0 + 1)) ++ new', el, false⟩) rfl rfl (((g2.drop off).take _).append k2) _ _⟩
                        · rw [hn0] at hv; cases hv
                      · rw [hfit] at hv
                        simp only [cond_true] at hv ⊢
                        split at hv
                        · rename_i h2 hp
                          cases hv
                          obtain ⟨H2, q1, q2, q3⟩ := aput_rn hp hn hm k2
                          simp only [q1]
                          exact ⟨_, _, rfl, e, q2, q3, .slice hm⟩
                        · cases hv
                    · rw [hun] at hv
                      simp only [cond_true] at hv ⊢
                      cases hel : (o.elem.beq el)
                      · rw [hel] at hv; cases hv
                      rw [hel] at hv
                      simp only [cond_true] at hv ⊢
                      cases hn0 : n.beq 0
                      · rw [hn0] at hv
                        simp only [cond_false] at hv ⊢
                        rw [← g2.1]
                        cases hcc : ((off + len * (s0 + 1)).ble o.cells.length && new.all one && ((len + n) * (by_ + 1)).ble 140737488355328)
                        · rw [hcc] at hv; cases hv
                        rw [hcc] at hv
                        cases hv
                        simp only [Bool.and_eq_true] at hcc
                        rw [k2.all_one hcc.1.2, hcc.1.1, hcc.2]
                        simp only [Bool.and_self, cond_true]
                        obtain ⟨q1, q2⟩ := hn.kill ho hm
                        obtain ⟨e1, q3, q4, q5⟩ := q1.mk_sl (o := ⟨(o.cells.drop off).take (len * (s0 + 1)) ++ new, el, false⟩) (O := ⟨(cs.drop off).take (len * (s0 + 1)) ++ new', el, false⟩) rfl rfl (((g2.drop off).take (len * (s0 + 1))).append k2) (len + n) (unk + (s0 + 1))
                        exact ⟨_, _, rfl, e1, q3, q2.trans hn q4, q5⟩
                      · rw [hn0] at hv
                        cases hv
                        exact ⟨_, _, rfl, e, hn, Ex.refl _ _ _, .slice hm⟩
                  · rw [hro] at hv; cases hv
                | nils hm hcap =>
                  have hun : unk.ble cap = true := (fun h => Nat.ble_eq_true_of_le h) hcap
                  have hcl := hn.gh _ _ ho hm
                  cases hro : o.ro
                  · rw [hro] at hv
                    simp only [cond_false, hun, cond_true] at hv
                    cases hel : (o.elem.beq el)
                    · rw [hel] at hv; cases hv
                    rw [hel] at hv
                    simp only [cond_true] at hv
                    unfold aappend
                    simp only [hst, hxt, hint, cond_false, hsz, hb, hz, k1, Nat.beq_refl, Bool.and_self, cond_true]
                    cases hn0 : n.beq 0
                    · rw [hn0] at hv
                      simp only [cond_false] at hv ⊢
                      cases hcc : ((off + 0 * (s0 + 1)).ble o.cells.length && new.all one && ((0 + n) * (by_ + 1)).ble 140737488355328)
                      · rw [hcc] at hv; cases hv
                      rw [hcc] at hv
                      cases hv
                      simp only [Bool.and_eq_true, Nat.zero_add] at hcc
                      rw [hcc.2]
                      simp only [cond_true, Nat.zero_add, Nat.zero_mul, List.take_zero, List.nil_append]
                      obtain ⟨q1, q2⟩ := hn.kill0 b
                      obtain ⟨e1, q3, q4, q5⟩ := q1.mk_sl (o := ⟨new, el, false⟩) (O := ⟨new', el, false⟩) rfl rfl k2 n (unk + (s0 + 1))
                      exact ⟨_, _, rfl, e1, q3, q2.trans hn q4, q5⟩
                    · rw [hn0] at hv
                      cases hv
                      exact ⟨_, _, rfl, e, hn, Ex.refl _ _ _, .nils hm hcap⟩
                  · rw [hro] at hv; cases hv
              · cases hv
            · rw [hbl] at hv; cases hv
          · cases hv
        · cases hv
      · cases hv
    · rw [hint] at hv; cases hv
  · cases hv
theorem atrim_rn {k n : Nat} {x x' y : Value} (hv : atrim k x = some (n, y)) (hx : RN e x x') : ∃ y', atrim k x' = some (n, y') ∧ RN e y y' := by
  cases hx with
  | same hp =>
    refine ⟨y, hv, .same ?_⟩
    unfold atrim at hv
    split at hv
    · rename_i a n0 c; cases hv; cases a <;> first | rfl | simp [plain] at hp
    · cases hv; rfl
    · cases hv
  | slice hm => simp only [atrim] at hv ⊢; cases hv; exact ⟨_, rfl, .slice hm⟩
  | nils hm hc =>
    simp only [atrim] at hv ⊢
    cases hv
    refine ⟨_, rfl, ?_⟩
    rw [show Nat.min 0 k = 0 from Nat.zero_min k]
    exact .nils hm hc
  | _ => simp [atrim] at hv
theorem acopy_rn {dt : TypeId} {d x d' x' v : Value} {h1 : Heap} (hv : acopy T dt d x h = some (v, h1)) (hn : HN e h H) (hd : RN e d d') (hx : RN e x x') :
    ∃ H1, acopy T dt d' x' H = some (v, H1) ∧ HN e h1 H1 ∧ Ex e e h H h1 H1 ∧ plain v = true := by
  unfold acopy at hv
  split at hv
  · rename_i el base dlen cap hs
    split at hv
    · rename_i s0 n y hsz ht
      obtain ⟨y', t1, t2⟩ := atrim_rn ht hx
      split at hv
      · rename_i n2 hsrc
        cases hv
        obtain ⟨l', k1, k2⟩ := asrc_rn hsrc hn t2
        have : l' = [] := List.eq_nil_of_length_eq_zero (by have := k2.1; simp at this; exact this.symm)
        subst this
        refine ⟨H, ?_, hn, Ex.refl _ _ _, rfl⟩
        cases hd with
        | same hp => unfold acopy; simp only [hs, hsz, t1, k1]
        | slice hm => unfold acopy; simp only [hs, hsz, t1, k1]
        | nils hm hc => unfold acopy; simp only [hs, hsz, t1, k1]
      · rename_i n2 l hne hsrc
        obtain ⟨l', k1, k2⟩ := asrc_rn hsrc hn t2
        have hl : l ≠ [] := fun q => hne q
        have hne' : l' ≠ [] := fun q => by
          subst q
          have := k2.1
          simp at this
          exact hl this
        split at hv
        · rename_i b off
          split at hv
          · rename_i h2 hp
            cases hv
            cases hd with
            | same hp => simp [plain] at hp
            | slice hm =>
              obtain ⟨H2, q1, q2, q3⟩ := aput_rn hp hn hm k2
              refine ⟨H2, ?_, q2, q3, rfl⟩
              unfold acopy
              simp only [hs, hsz, t1, k1]
              cases l' with
              | nil => exact absurd rfl hne'
              | cons p r => simp only [q1]
            | nils hm hc =>
              exfalso
              unfold atrim at ht
              have : n = 0 := by
                split at ht
                · cases ht; exact Nat.min_zero _
                · cases ht; exact Nat.min_zero _
                · cases ht
              subst this
              have hz : l = [] := by
                split at ht
                · rename_i a n0 c
                  have e1 : y = .slice a (Nat.min n0 0) c := by injection ht with ht; injection ht with _ ht; exact ht.symm
                  subst e1
                  rw [show Nat.min n0 0 = 0 from Nat.min_zero _] at hsrc
                  cases a with
                  | none => simp [asrc] at hsrc; exact hsrc.2
                  | some a =>
                    obtain ⟨b2, o2, p2⟩ := a
                    cases p2 with
                    | some _ => simp [asrc] at hsrc
                    | none =>
                      simp only [asrc] at hsrc
                      split at hsrc
                      · simp at hsrc; exact hsrc.2
                      · cases hsrc
                · rename_i st
                  have e1 : y = .string (st.extract 0 (Nat.min st.size 0)) := by injection ht with ht; injection ht with _ ht; exact ht.symm
                  subst e1
                  unfold asrc at hsrc
                  simp only at hsrc
                  cases hb : (s0 + 1).beq 1
                  · rw [hb] at hsrc; cases hsrc
                  · rw [hb] at hsrc
                    cases hsrc
                    rw [show Nat.min st.size 0 = 0 from Nat.min_zero _]
                    simp
                · cases ht
              exact hl hz
          · cases hv
        · cases hv
      · cases hv
    · cases hv
  · cases hv
theorem bytesOf_rn {l l' : List Value} (hr : RNs e l l') {s0 s : ByteArray} (hv : bytesOf.go l s0 = some s) : l' = l := by
  obtain ⟨ns, rfl, _⟩ := bytesOf_spec _ _ _ hv
  exact (hr.inj (RNs.of_plain (by rw [List.all_eq_true]; intro x hx; obtain ⟨_, _, rfl⟩ := List.mem_map.1 hx; rfl)))
theorem aconvert_rn {src dst : TypeId} {x x' v : Value} (hv : aconvert T src dst x h = some v) (hn : HN e h H) (hx : RN e x x') : aconvert T src dst x' H = some v ∧ plain v = true := by
  unfold aconvert at hv
  split at hv
  · rename_i d k k0 n h1 h2
    cases hv
    have := hx.plain_eq rfl
    subst this
    unfold aconvert
    simp only [h1, h2]
    exact ⟨trivial, rfl⟩
  · rename_i el n c h1 h2
    have := hx.plain_eq rfl
    subst this
    cases hu : isU8 (T.under el)
    · rw [hu] at hv; cases hv
    rw [hu] at hv
    cases hv
    unfold aconvert
    simp only [h1, h2, hu, cond_true]
    exact ⟨trivial, rfl⟩
  · rename_i el b off n c h1 h2
    cases hu : isU8 (T.under el)
    · rw [hu] at hv; cases hv
    rw [hu] at hv
    simp only [cond_true] at hv
    split at hv
    · rename_i o ho
      cases hlen : ((o.cells.drop off).take n).length.beq n
      · simp only [hlen] at hv; cases hv
      simp only [hlen, cond_true] at hv
      split at hv
      · rename_i s hb
        cases hv
        refine ⟨?_, rfl⟩
        cases hx with
        | same hp => simp [plain] at hp
        | slice hm =>
          obtain ⟨cs, g1, g2⟩ := hn.blk _ _ _ ho hm
          have := bytesOf_rn ((g2.drop off).take n) (show bytesOf.go _ _ = some s from hb)
          unfold aconvert
          simp only [h1, h2, hu, cond_true, g1, this, hlen, hb]
        | nils hm hc =>
          unfold aconvert
          simp only [h1, h2, hu, cond_true]
          simp only [List.take_zero] at hb
          have : bytesOf [] = some ByteArray.empty := rfl
          rw [this] at hb
          cases hb
          rfl
      · cases hv
    · cases hv
  · cases hv
end
end Go.Ev
