/- Walks by hand: what is known of a state's slots; cells; memory that goes on above a line; slices that grow. -/
import Derived.Test.YtahikechkggbfaaEvSc
import Derived.Test.YtahikechkggbfaaEvW
namespace Go.Ev
open Go
set_option linter.unusedVariables false
set_option linter.unusedSimpArgs false
/-- Slots that are known. -/
def Kn (tm : Tr Value) : List (Nat × Value) → Prop
  | [] => True
  | (i, v) :: r => tm.get i = some v ∧ Kn tm r
def putAll (tm : Tr Value) : List (Nat × Value) → Tr Value
  | [] => tm
  | (i, v) :: r => (putAll tm r).put i (some v)
theorem putAll_eq {tm : Tr Value} : ∀ {L : List (Nat × Value)}, Kn tm L → putAll tm L = tm := by
  intro L
  induction L with
  | nil => intro _; rfl
  | cons p r ih =>
    intro h
    obtain ⟨i, v⟩ := p
    simp only [putAll]
    rw [ih h.2]
    unfold Tr.put
    rw [put_same _ _ _ _ (by omega) h.1]
section
variable {P : Program} {T : Tab} {n : Nat} {s : St} {Q : Xt → St → Prop} {c : Code}
theorem aw_kn (L : List (Nat × Value)) (h : Kn s.tm L) (hq : ∀ tm, Aw P T n c Q ⟨putAll tm L, s.H⟩) : Aw P T n c Q s := by
  have := hq s.tm
  rw [putAll_eq h] at this
  exact this
theorem aw_kn' (L : List (Nat × Value)) {H : Heap} (h : Kn s.tm L) (hH : s.H = H) (hq : ∀ tm, Aw P T n c Q ⟨putAll tm L, H⟩) : Aw P T n c Q s := by
  subst hH
  exact aw_kn L h hq
end
theorem aw_mid {P : Program} {T : Tab} {n : Nat} {s : St} {Q : Xt → St → Prop} {c : Code} (R : St → Prop) (h1 : Aw P T n c (fun x s' => x = .normal ∧ R s') s) (h2 : ∀ s', R s' → Q .normal s') : Aw P T n c Q s :=
  h1.mono fun x s' ⟨e, hr⟩ => by subst e; exact h2 s' hr
theorem aw_loop_k {P : Program} {T : Tab} {n : Nat} {s : St} {Q : Xt → St → Prop} {a : Code} (h : ∀ K : St → Prop, (∀ s, Aw P T n (.loop a) Q s → K s) → Aw P T n a (Xt.then K Q) s) : Aw P T n (.loop a) Q s := aw_loop_once (h _ fun _ h => h)
/-! Cells -/
def aloadC (T : Tab) (t : TypeId) (cells : List Value) (off : Nat) : Option Value :=
  match T.under t, T.size t with
  | some d, some n =>
    bif isRow d then
      let l := (cells.drop off).take n
      bif l.length.beq n then some (.agg l.toArray) else none
    else cells[off]?
  | _, _ => none
theorem aload_at {T : Tab} {t : TypeId} {b off : Nat} {H : Heap} {cells : List Value} {e : TypeId} {ro : Bool} (g : H.get b = some ⟨cells, e, ro⟩) : aload T t (.pointer (some ⟨b, off, none⟩)) H = aloadC T t cells off := by
  unfold aload aloadC
  simp only [g]
  cases T.under t with
  | none => rfl
  | some d => cases T.size t <;> rfl
theorem aloadC_one {T : Tab} {t : TypeId} {d : TypeDesc} {n off : Nat} {cells : List Value} {x : Value} (hu : T.under t = some d) (hs : T.size t = some n) (hd : isRow d = false) (hx : cells[off]? = some x) : aloadC T t cells off = some x := by
  unfold aloadC
  simp only [hu, hs, hd, cond_false, hx]
theorem aloadC_row {T : Tab} {t : TypeId} {d : TypeDesc} {n off : Nat} {cells l : List Value} (hu : T.under t = some d) (hs : T.size t = some n) (hd : isRow d = true) (hl : l.length = n) (hx : (cells.drop off).take n = l) : aloadC T t cells off = some (.agg l.toArray) := by
  unfold aloadC
  have : l.length.beq n = true := by rw [beq_dec]; simp [hl]
  simp only [hu, hs, hd, cond_true, hx, this]
def astoreC (T : Tab) (t : TypeId) (cells : List Value) (off : Nat) (x : Value) : Option (List Value) :=
  match T.size t with
  | some n => bif x.cells.size.beq n then bif x.cells.toList.all one && (off + x.cells.toList.length).ble cells.length then some (splice cells off x.cells.toList) else none else none
  | none => none
theorem astore_at {T : Tab} {t : TypeId} {b off : Nat} {H : Heap} {cells : List Value} {e : TypeId} {x : Value} (g : H.get b = some ⟨cells, e, false⟩) :
    astore T t (.pointer (some ⟨b, off, none⟩)) x H = (match astoreC T t cells off x with | some l => some (H.put b ⟨l, e, false⟩) | none => none) := by
  unfold astore astoreC
  cases T.size t with
  | none => rfl
  | some n =>
    simp only
    cases x.cells.size.beq n
    · rfl
    · simp only [cond_true]
      unfold aput
      simp only [g, Bool.not_false, Bool.true_and]
      cases (x.cells.toList.all one && (off + x.cells.toList.length).ble cells.length) <;> rfl
theorem astore_to {T : Tab} {t : TypeId} {b off : Nat} {H : Heap} {cells l : List Value} {e : TypeId} {x : Value} (g : H.get b = some ⟨cells, e, false⟩) (h : astoreC T t cells off x = some l) :
    astore T t (.pointer (some ⟨b, off, none⟩)) x H = some (H.put b ⟨l, e, false⟩) := by
  rw [astore_at g, h]
theorem astoreC_one {T : Tab} {t : TypeId} {cells : List Value} {off : Nat} {x : Value} (hs : T.size t = some 1) (hx : x.cells = #[x]) (h1 : one x = true) (hq : off < cells.length) : astoreC T t cells off x = some (cells.set off x) := by
  unfold astoreC
  simp only [hs, hx]
  have e1 : (#[x] : Array Value).size.beq 1 = true := rfl
  have e3 : (off + [x].length).ble cells.length = true := by rw [ble_dec]; simp; omega
  simp only [e1, cond_true, List.all_cons, h1, List.all_nil, Bool.and_true, Bool.true_and, e3]
  rfl
/-! Numbers -/
theorem wrap_is {k : IntKind} {x y : Int} (h : k.wrap x = y) : Value.int k (k.wrap x) = Value.int k y := by rw [h]
theorem see_int {k : IntKind} {x y : Int} {o : Option Value} (h1 : o = some (.int k x)) (h : x = y) : o = some (.int k y) := by rw [h1, h]
theorem see_bool {x y : Bool} {o : Option Value} (h1 : o = some (.bool x)) (h : x = y) : o = some (.bool y) := by rw [h1, h]
theorem see_val {x y : Value} {o : Option Value} (h1 : o = some x) (h : x = y) : o = some y := by rw [h1, h]
theorem w64 {x y : Int} (h : x = y) (h1 : -9223372036854775808 ≤ y) (h2 : y ≤ 9223372036854775807) : IntKind.i64.wrap x = y := by
  subst h
  rw [IntKind.wrap_i64]
  omega
theorem wu32 {x y : Int} (h : x = y) (h1 : 0 ≤ y) (h2 : y < 4294967296) : IntKind.u32.wrap x = y := by
  subst h
  rw [IntKind.wrap_u32]
  omega
theorem wu64 {x y : Int} (h : x = y) (h1 : 0 ≤ y) (h2 : y < 18446744073709551616) : IntKind.u64.wrap x = y := by
  subst h
  simp only [IntKind.wrap]
  simp [IntKind.bits, IntKind.signed]
  omega
theorem wu8 {x y : Int} (h : x = y) (h1 : 0 ≤ y) (h2 : y < 256) : IntKind.u8.wrap x = y := by
  subst h
  rw [IntKind.wrap_u8]
  omega
/-! Memory above a line -/
structure Up (lo : Nat) (H H' : Heap) : Prop where
  n : H.n ≤ H'.n
  get : ∀ b, b < lo → H'.get b = H.get b
section
variable {lo : Nat} {a b c : Heap}
theorem Up.refl (H : Heap) : Up lo H H := ⟨Nat.le_refl _, fun _ _ => rfl⟩
theorem Up.trans (h : Up lo a b) (k : Up lo b c) : Up lo a c := ⟨Nat.le_trans h.n k.n, fun x hx => (k.get x hx).trans (h.get x hx)⟩
theorem Up.push (hl : lo ≤ b.n) (h : Up lo a b) (o : Ob) : Up lo a (b.push o) := ⟨Nat.le_trans h.n (by simp [Heap.n_push]), fun x hx => by rw [Heap.get_push, if_neg (by omega)]; exact h.get x hx⟩
theorem Up.put (h : Up lo a b) {x : Nat} (hx : lo ≤ x) (o : Ob) : Up lo a (b.put x o) := ⟨h.n, fun y hy => by rw [Heap.get_put, if_neg (by omega)]; exact h.get y hy⟩
theorem Up.kill (h : Up lo a b) {x : Nat} (hx : lo ≤ x) : Up lo a (b.kill x) := ⟨h.n, fun y hy => by rw [Heap.get_kill, if_neg (by omega)]; exact h.get y hy⟩
theorem Up.mono {lo' : Nat} (h : Up lo a b) (hl : lo' ≤ lo) : Up lo' a b := ⟨h.n, fun x hx => h.get x (by omega)⟩
theorem Up.of_ext {lo : Nat} (h : Ext a b) (hl : lo ≤ a.n) : Up lo a b := ⟨h.n, fun x hx => h.get x (by omega)⟩
end
/-! A slice that grows: nil, or a block of its own -/
/-- A slice that may grow: what it holds, in which block (if any). -/
structure Gr (H : Heap) (lo : Nat) (e : TypeId) (esz : Nat) (v : Value) (len : Nat) (xs : List Value) : Prop where
  size : xs.length = len * esz
  at_ : (v = .slice none 0 0 ∧ len = 0) ∨ ∃ B, v = .slice (some ⟨B, 0, none⟩) len (unk + esz) ∧ H.get B = some ⟨xs, e, false⟩ ∧ B < H.n ∧ lo ≤ B
theorem Gr.nil {H : Heap} {lo : Nat} {e : TypeId} {esz : Nat} : Gr H lo e esz (.slice none 0 0) 0 [] := ⟨by simp, .inl ⟨rfl, rfl⟩⟩
theorem Gr.keep {H H' : Heap} {lo lo' : Nat} {e : TypeId} {esz : Nat} {v : Value} {len : Nat} {xs : List Value} (h : Gr H lo e esz v len xs) (hn : H.n ≤ H'.n) (hk : ∀ b, lo ≤ b → b < H.n → H'.get b = H.get b) : Gr H' lo e esz v len xs := by
  refine ⟨h.size, ?_⟩
  rcases h.at_ with h1 | ⟨B, h1, h2, h3, h4⟩
  · exact .inl h1
  · exact .inr ⟨B, h1, by rw [hk B h4 h3]; exact h2, by omega, h4⟩
/-- Something is put behind. -/
theorem aappend_gr {T : Tab} {st xt e : TypeId} {xd : TypeDesc} {s0 by_ : Nat} {z : Value} (hu : T.under st = some (.slice e)) (hx : T.under xt = some xd) (hi : isIntD xd = false) (hs : T.size e = some (s0 + 1)) (hb : T.bytes e = some (by_ + 1)) (hz : T.zero e = some z)
    {H : Heap} {lo : Nat} {v x : Value} {len n : Nat} {xs new : List Value} (hg : Gr H lo e (s0 + 1) v len xs) (hsrc : asrc (s0 + 1) x H = some (n, new)) (hnew : new.length = n * (s0 + 1)) (hone : new.all one = true) (hn : 0 < n) (hne : ∀ B, v = .slice (some ⟨B, 0, none⟩) len (unk + (s0 + 1)) → blockOf x ≠ some B)
    (hbig : (len + n) * (by_ + 1) ≤ 140737488355328) (hlo : lo ≤ H.n) :
    ∃ v' H', aappend T st xt v x H = some (v', H') ∧ Gr H' lo e (s0 + 1) v' (len + n) (xs ++ new) ∧ Up lo H H' ∧ (∀ b, b < H.n → (∀ B c k, v = .slice (some ⟨B, 0, none⟩) c k → b ≠ B) → H'.get b = H.get b) ∧ H'.n = H.n + 1 ∧ v' = .slice (some ⟨H.n, 0, none⟩) (len + n) (unk + (s0 + 1)) := by
  have en : n.beq 0 = false := by rw [beq_dec]; simp; omega
  rcases hg.at_ with ⟨rfl, rfl⟩ | ⟨B, rfl, hget, hB, hlB⟩
  · have hxs : xs = [] := by have := hg.size; simpa using this
    subst hxs
    have e2 : (n * (by_ + 1)).ble 140737488355328 = true := by rw [Nat.zero_add] at hbig; rw [ble_dec]; simp [hbig]
    refine ⟨.slice (some ⟨H.n, 0, none⟩) n (unk + (s0 + 1)), H.push ⟨new, e, false⟩, ?_, ?_, ?_, ?_, rfl, by rw [Nat.zero_add]⟩
    · unfold aappend
      simp only [hu, hx, hi, hs, hb, hz, hsrc, cond_false, Nat.beq_refl, Bool.and_self, cond_true, en, e2]
    · refine ⟨by simp [hnew], .inr ⟨H.n, by rw [Nat.zero_add], by rw [Heap.get_push, if_pos rfl]; rfl, by simp [Heap.n_push], hlo⟩⟩
    · exact (Up.refl H).push hlo _
    · intro b hb _; rw [Heap.get_push, if_neg (by omega)]
  · have e1 : (blockOf x == some B) = false := by
      have := hne B rfl
      simpa using this
    have e2 : unk.ble (unk + (s0 + 1)) = true := by rw [ble_dec]; simp
    have e3 : (0 + len * (s0 + 1)).ble xs.length = true := by rw [ble_dec]; simp [hg.size]
    have e4 : ((len + n) * (by_ + 1)).ble 140737488355328 = true := by rw [ble_dec]; simp [hbig]
    have e7 : (xs.drop 0).take (len * (s0 + 1)) = xs := by rw [List.drop_zero, List.take_of_length_le (by rw [hg.size]; exact Nat.le_refl _)]
    refine ⟨.slice (some ⟨H.n, 0, none⟩) (len + n) (unk + (s0 + 1)), (H.kill B).push ⟨xs ++ new, e, false⟩, ?_, ?_, ?_, ?_, rfl, rfl⟩
    · unfold aappend
      simp only [hu, hx, hi, hs, hb, hz, hsrc, cond_false, e1, hget, e2, cond_true, Nat.beq_refl, en, e3, hone, e4, Bool.and_self, e7]
    · refine ⟨by rw [List.length_append, hg.size, hnew, Nat.add_mul], .inr ⟨H.n, rfl, by rw [Heap.get_push, Heap.n_kill, if_pos rfl], by simp [Heap.n_push, Heap.n_kill], hlo⟩⟩
    · exact ((Up.refl H).kill hlB).push (by rw [Heap.n_kill]; exact hlo) _
    · intro b hb hne2
      rw [Heap.get_push, Heap.n_kill, if_neg (by omega), Heap.get_kill, if_neg (hne2 B _ _ rfl)]
theorem asrc_blk {H : Heap} {size b off n cap : Nat} {cells l : List Value} {e : TypeId} {ro : Bool} (g : H.get b = some ⟨cells, e, ro⟩) (hl : (cells.drop off).take (n * size) = l) (hn : l.length = n * size) : asrc size (.slice (some ⟨b, off, none⟩) n cap) H = some (n, l) := by
  unfold asrc
  have : l.length.beq (n * size) = true := by rw [beq_dec]; simp [hn]
  simp only [g, hl, this, cond_true]
/-! Parts of code; regions; calls of data -/
def opsOf : Code → Array Oper | .region _ o _ => o | _ => #[]
def cop : Code → Operand | .cond x _ _ => x | _ => .tmp 0
section
variable {P : Program} {T : Tab} {n : Nat} {ops : Array Oper} {Q : Xt → St → Prop} {s : St}
theorem aw_draw0w {id : Nat} (hl : loose T ops = []) (h : AOps P T n ops ops.toList (Q .normal) s) : Aw P T n (.region id ops true) Q s := by
  obtain ⟨l⟩ := ops
  exact aw_draw0 hl h
theorem aopsC_pt {K : St → Prop} {l : List Oper} (t : Nat) (v : Value) (he : l.isEmpty = false) (hw : awanted ops s.tm (hdO l) = true) (hd : dput n s.tm (hdO l).dst v = some (s.tm.put t (some v)))
    (hl : isLoad (hdO l).op = false) (ha : aop P T s.tm (hdO l) s.H = some (.val v, s.H)) (hk : AOpsC P T n ops l.tail K ⟨s.tm.put t (some v), s.H⟩) (hc : isConv (hdO l).op = false := by kernel_rfl) : AOpsC P T n ops l K s := by
  rw [hdO_tail he]
  exact aopsC_val hw ha (.inl hl) hd hk hc
theorem aopsC_cv {K : St → Prop} {l : List Oper} (t : Nat) (v : Value) (he : l.isEmpty = false) (hw : awanted ops s.tm (hdO l) = true) (hd : dput n s.tm (hdO l).dst v = some (s.tm.put t (some v)))
    (hl : isLoad (hdO l).op = false) (hlk : cls T (hdO l).op = .look → Looks T s.tm (hdO l) s.H) (ha : aop P T s.tm (hdO l) s.H = some (.val v, s.H)) (hk : AOpsC P T n ops l.tail K ⟨s.tm.put t (some v), s.H⟩) : AOpsC P T n ops l K s := by
  rw [hdO_tail he]
  exact aopsC_conv hw ha hl hlk hd hk
end
def H0 : Heap := ⟨.lf, 0⟩
theorem data_calls [Bs] {P : Program} {T : Tab} (hP : ProgOk P T) {f : FuncId} {args : Array Value} {v : Value} (ha : args.toList.all closed = true) (hv : closed v = true) (h : ACall P T f args ⟨.lf, 0⟩ fun r _ => r = v) (w : World) (hw : OnBs w) : Calls P f args w fun e w' => e = .returned v ∧ Quiet w w' := by
  have hwf : HWf ⟨.lf, 0⟩ := fun b hb => by simp [Heap.get] at hb; cases b <;> simp [Tr.get] at hb
  have hr : Rep P (fun _ => none) ⟨.lf, 0⟩ w := ⟨⟨fun b L hb => (by cases hb), fun b L o hb => (by cases hb), fun b1 b2 L1 L2 hb => (by cases hb)⟩, ⟨hw, fun b L hb => (by cases hb)⟩⟩
  refine (h.calls hP hwf hr (args' := args) ⟨rfl, fun i x hx => ⟨x, hx, VR.of_closed (List.all_eq_true.1 ha x (List.mem_of_getElem? hx))⟩⟩).mono fun e w' hp => ?_
  obtain ⟨v1, H', rfl, v', m', rfl, hv', _, hf⟩ := hp
  rw [hv'.closed_eq hv]
  exact ⟨rfl, hf.os, hf.tape, hf.output, hf.size, fun c hc => hf.keep c hc (by rintro ⟨b, L, hb, _⟩; cases hb)⟩
def addOrc (g : FuncId → List Value → Option Value) (f0 : FuncId) (sp : List Value → Option Value) (f : FuncId) (args : List Value) : Option Value := bif Nat.beq f f0 then sp args else g f args
/-- A function of data more, that is known. -/
theorem ProgOk.add [Bs] {P : Program} {T : Tab} (h : ProgOk P T) (f0 : FuncId) (sp : List Value → Option Value) (hs : ∀ args v, sp args = some v → closed v = true ∧ args.all closed = true ∧ ∀ w, OnBs w → Calls P f0 args.toArray w fun e w' => e = .returned v ∧ Quiet w w') : ProgOk P { T with orc := addOrc T.orc f0 sp } := by
  refine h.withOrc _ fun f args v ho => ?_
  unfold addOrc at ho
  cases hb : Nat.beq f f0
  · rw [hb] at ho; exact h.orc f args v ho
  · rw [hb] at ho
    have := Nat.eq_of_beq_eq_true hb
    subst this
    exact hs args v ho
/-- The same, by walks. -/
theorem ProgOk.know [Bs] {P : Program} {T : Tab} (h : ProgOk P T) (f0 : FuncId) (sp : List Value → Option Value) (hs : ∀ args v, sp args = some v → closed v = true ∧ args.all closed = true ∧ ACall P T f0 args.toArray ⟨.lf, 0⟩ fun r _ => r = v) : ProgOk P { T with orc := addOrc T.orc f0 sp } :=
  h.add f0 sp fun args v hv => ⟨(hs args v hv).1, (hs args v hv).2.1, fun w hw => data_calls h (by simpa using (hs args v hv).2.1) (hs args v hv).1 (hs args v hv).2.2 w hw⟩
/-- Does a call, run to its end, answer a value? -/
def answers (v : Value) : Option (Value × Heap) → Bool
  | some (u, _) => veq u v
  | none => false
theorem acall_answers {P : Program} {T : Tab} {k : Nat} {f : FuncId} {args : Array Value} {H : Heap} {v : Value} (h : answers v (evCall P T k f args H) = true) : ACall P T f args H fun r _ => r = v := by
  unfold answers at h
  split at h
  · rename_i u H' he
    unfold ACall
    exact ⟨k, u, H', he, veq_eq h⟩
  · cases h
/-- A function of one number, run at each of the first ones. -/
theorem acall_range {P : Program} {T : Tab} {k N : Nat} {f : FuncId} {kind : IntKind} {H : Heap} {g : Int → Value} (h : (List.range N).all (fun i => answers (g i) (evCall P T k f #[.int kind i] H)) = true) {x : Int} (h0 : 0 ≤ x) (h1 : x < N) : ACall P T f #[.int kind x] H fun r _ => r = g x := by
  obtain ⟨i, rfl⟩ : ∃ i : Nat, x = i := ⟨x.toNat, by omega⟩
  exact acall_answers (List.all_eq_true.1 h i (by simp; omega))
end Go.Ev
