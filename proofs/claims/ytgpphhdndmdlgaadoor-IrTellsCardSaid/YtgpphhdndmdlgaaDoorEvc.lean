/- The evaluator: Walks by hand, in great steps: what stands still is run by the kernel, with names for what is not known. Walks by hand, in great steps: states of which some slots are known; arguments that lie in memo -/
import Derived.Test.YtgpphhdndmdlgaaDoorEvb
import Derived.WalkKit
import Derived.ProofKit
import Derived.OpenShut
import Derived.Deep.Slices
import Derived.Deep.Fields
import Derived.ChangeSlices
import Derived.ChangeSame
import Derived.WideKeyArgs
section
namespace Go.Ev
open Go
set_option linter.unusedVariables false
set_option linter.unusedSimpArgs false
def dTm (o : Option (Tr Value)) (i : Nat) : Value := match o with | some tm => (tm.get i).getD undef | none => undef
section
variable {P : Program} {T : Tab} {n : Nat} {ops : Array Oper} {K : St → Prop} {Q : Xt → St → Prop} {s s1 : St}
def hdO (l : List Oper) : Oper := match l with | o :: _ => o | [] => default
theorem hdO_tail {l : List Oper} (h : l.isEmpty = false) : l = hdO l :: l.tail := by
 cases l with
 | nil => cases h
 | cons o l => rfl
def pureOp : Op → Bool
 | .move _ | .assign _ | .pick .. | .binOp .. | .unOp .. | .fieldAddr .. | .field .. | .indexAddr .. | .extract .. | .slice .. => true
 | .call c => match c.callee with | .builtin .len => true | _ => false
 | _ => false
def runC (P : Program) (T : Tab) (n : Nat) (ops : Array Oper) : List Oper → St → Option St
 | [], s => some s
 | o :: l, s => bif awanted ops s.tm o then
     (bif pureOp o.op then match aop P T s.tm o s.H with
      | some (.val v, _) => match fin n o.dst s.tm v s.H with
       | some s' => runC P T n ops l s'
       | none => none
      | _ => none
     else none)
  else match fin n o.dst s.tm undef s.H with
   | some s' => runC P T n ops l s'
   | none => none
theorem aw_reg {id : Nat} (h : AOps P T n ops ops.toList (Q .normal) s) : Aw P T n (.region id ops false) Q s := aw_region h
section
variable {L : List (Nat × Value)} {d : Nat → Value} {H : Heap}
end
end
end Go.Ev
end
section
namespace Go.Ev
open Go
set_option linter.unusedVariables false
set_option linter.unusedSimpArgs false
structure FrA (w0 : World) (m : Map) (H : Heap) (w : World) : Prop where
 os : w.os = w0.os
 tape : w.tape = w0.tape
 output : w.output = w0.output
 size : w0.heap.size ≤ w.heap.size
 keep : ∀ c, c < w0.heap.size → w.heap[c]? = w0.heap[c]?
 live : ∀ b L, m b = some L → H.wr b → w0.heap.size ≤ L.c
theorem FrA.next [Bs] {P : Program} {w0 w w' : World} {m m' : Map} {H H' : Heap} (hr : Rep P m H w) (h : FrA w0 m H w) (k : Fr m H w m' H' w') : FrA w0 m' H' w' where
 os := k.os.trans h.os
 tape := k.tape.trans h.tape
 output := k.output.trans h.output
 size := Nat.le_trans h.size k.size
 keep := fun c hc => by
  refine (k.keep c (Nat.lt_of_lt_of_le hc h.size) ?_).trans (h.keep c hc)
  rintro ⟨b, L, h1, h2, rfl⟩
  have := h.live b L h1 h2
  omega
 live := fun b L hb hl => by
  rcases k.live b L hb (Heap.wr_live hl) with ⟨h1, h2⟩ | ⟨_, h2 | h2⟩
  ·exact h.live b L h1 (k.wrb b (hr.dom b L h1) hl)
  ·obtain ⟨b', L', h3, h4, h5⟩ := h2
   have := h.live b' L' h3 h4
   omega
  ·exact Nat.le_trans h.size h2
structure SatA [Bs] (P : Program) (n : Nat) (w0 : World) (s : St) (m : Map) (a : Act) (w : World) : Prop where
 hwf : HWf s.H
 tm : TmRel m s.tm a.tmps
 size : a.tmps.size = n
 rep : Rep P m s.H w
 fr : FrA w0 m s.H w
def TwPost [Bs] (P : Program) (n : Nat) (w0 : World) (Q : Xt → St → Prop) (a : Act) (e : Exit) (a' : Act) (w' : World) : Prop :=
 ∃ x s' m', e = Xt.exit' x ∧ Q x s' ∧ a'.defers = a.defers ∧ SatA P n w0 s' m' a' w'
def Tw [Bs] (P : Program) (n : Nat) (w0 : World) (c : Code) (Q : Xt → St → Prop) (s : St) : Prop :=
 ∀ m a w, SatA P n w0 s m a w → c.wp P (TwPost P n w0 Q a) a w
section
variable {P : Program} {T : Tab} {n : Nat} {w0 : World} {Q : Xt → St → Prop} {s : St} {c c1 c2 : Code}
theorem TwPost.from [Bs] {a a1 : Act} (hd : a1.defers = a.defers) {e : Exit} {a' : Act} {w' : World} (h : TwPost P n w0 Q a1 e a' w') : TwPost P n w0 Q a e a' w' := by
 obtain ⟨x, s', m', h1, h2, h3, h4⟩ := h
 exact ⟨x, s', m', h1, h2, h3.trans hd, h4⟩
theorem Tw.mono [Bs] {Q' : Xt → St → Prop} (h : Tw P n w0 c Q s) (hq : ∀ x s, Q x s → Q' x s) : Tw P n w0 c Q' s := fun m a w hs =>
 wp_mono (h m a w hs) fun e a' w' ⟨x, s', m', h1, h2, h3⟩ => ⟨x, s', m', h1, hq _ _ h2, h3⟩
def RetIs (T : Tab) (rs : Array ResultVar) (R : Value → Heap → Prop) : Xt → St → Prop
 | .normal, s => ∃ v, aresults T s.tm s.H rs = some v ∧ R v s.H
 | .ret, s => ∃ v, aresults T s.tm s.H rs = some v ∧ R v s.H
 | _, _ => False
variable {ops : Array Oper} {K : St → Prop}
theorem put_same : ∀ (f : Nat) (t : Tr Value) (i : Nat) (v : Value), i < f → t.get i = some v → Tr.putF f t i (some v) = t := by
 intro f
 induction f with
 | zero => intro t i v h; omega
 | succ f ih =>
  intro t i v h hg
  cases t with
  | lf => cases i <;> simp [Tr.get] at hg
  | nd l x r =>
   cases i with
   | zero => simp only [Tr.get] at hg; subst hg; rfl
   | succ k =>
    simp only [Tr.get] at hg
    simp only [Tr.putF, Tr.left, Tr.right, Tr.top]
    cases hb : (k % 2).beq 0
    ·rw [hb] at hg; simp only [cond_false] at hg ⊢; rw [ih _ _ _ (by omega) hg]
    ·rw [hb] at hg; simp only [cond_true] at hg ⊢; rw [ih _ _ _ (by omega) hg]
theorem st_see (t : Nat) (v : Value) (h : s.tm.get t = some v) : s = ⟨s.tm.put t (some v), s.H⟩ := by
 unfold Tr.put
 rw [put_same _ _ _ _ (by omega) h]
end
end Go.Ev
end
section
namespace Go.Ev
open Go
set_option linter.unusedVariables false
set_option linter.unusedSimpArgs false
section
variable {P : Program} {T : Tab} {n : Nat} {ops : Array Oper} {Q : Xt → St → Prop} {s : St} {R : List St → St → Prop}
theorem atr_skip {l : List Oper} {acc : List St} (H' : Heap) (he : l.isEmpty = false) (hw : awanted ops s.tm (hdO l) = true) (hd : (hdO l).dst = none)
    (ha : aop P T s.tm (hdO l) s.H = some (.skip, H')) (hk : ATr P T n ops l.tail (acc ++ [s]) R ⟨s.tm, H'⟩) : ATr P T n ops l acc R s := by
 rw [hdO_tail he]
 show AStep P T n ops (hdO l) _ s
 unfold AStep
 rw [hw, ha, hd]
 exact aput_k rfl hk
theorem atr_end {l : List Oper} {acc : List St} (he : l.isEmpty = true) (hk : R (acc ++ [s]) s) : ATr P T n ops l acc R s := by
 cases l with
 | nil => exact hk
 | cons o l => cases he
theorem aw_drawW {id : Nat} (h : ATr P T n ops ops.toList [] (fun r s' => (loose T ops).all (steady T ops r) = true ∧ Q .normal s') s) : Aw P T n (.region id ops true) Q s := by
 obtain ⟨l⟩ := ops
 exact aw_draw h
end
theorem veq_int (k : IntKind) (x : Int) : veq (.int k x) (.int k x) = true := by simp [veq, veq0]
theorem veq_slice (a : Option Addr) (l c : Nat) : veq (.slice a l c) (.slice a l c) = true := by cases a <;> simp [veq, veq0]
end Go.Ev
end
section
namespace Go.Ev
open Go
set_option linter.unusedVariables false
set_option linter.unusedSimpArgs false
section
variable {P : Program} {T : Tab} {n : Nat} {s : St} {Q : Xt → St → Prop} {c : Code}
end
def aloadC (T : Tab) (t : TypeId) (cells : List Value) (off : Nat) : Option Value :=
 match T.under t, T.size t with
 | some d, some n =>
  bif isRow d then
   let l := (cells.drop off).take n
   bif l.length.beq n then some (.agg l.toArray) else none
  else cells[off]?
 | _, _ => none
theorem aload_at {T : Tab} {t : TypeId} {b off : Nat} {H : Heap} {cells : List Value} {e : TypeId} {ro : Bool} (g : H.get b = some ⟨cells, e, ro⟩) : aload T t (.pointer (some ⟨b, off, none⟩)) H = aloadC T t cells off := by
 unfold aload aloadC
 simp only [g]
 cases T.under t with
 | none => rfl
 | some d => cases T.size t <;> rfl
theorem aloadC_one {T : Tab} {t : TypeId} {d : TypeDesc} {n off : Nat} {cells : List Value} {x : Value} (hu : T.under t = some d) (hs : T.size t = some n) (hd : isRow d = false) (hx : cells[off]? = some x) : aloadC T t cells off = some x := by
 unfold aloadC
 simp only [hu, hs, hd, cond_false, hx]
theorem aloadC_row {T : Tab} {t : TypeId} {d : TypeDesc} {n off : Nat} {cells l : List Value} (hu : T.under t = some d) (hs : T.size t = some n) (hd : isRow d = true) (hl : l.length = n) (hx : (cells.drop off).take n = l) : aloadC T t cells off = some (.agg l.toArray) := by
 unfold aloadC
 have : l.length.beq n = true := by rw [beq_dec]; simp [hl]
 simp only [hu, hs, hd, cond_true, hx, this]
def astoreC (T : Tab) (t : TypeId) (cells : List Value) (off : Nat) (x : Value) : Option (List Value) :=
 match T.size t with
 | some n => bif x.cells.size.beq n then bif x.cells.toList.all one && (off + x.cells.toList.length).ble cells.length then some (splice cells off x.cells.toList) else none else none
 | none => none
theorem astore_at {T : Tab} {t : TypeId} {b off : Nat} {H : Heap} {cells : List Value} {e : TypeId} {x : Value} (g : H.get b = some ⟨cells, e, false⟩) :
    astore T t (.pointer (some ⟨b, off, none⟩)) x H = (match astoreC T t cells off x with | some l => some (H.put b ⟨l, e, false⟩) | none => none) := by
 unfold astore astoreC
 cases T.size t with
 | none => rfl
 | some n =>
  simp only
  cases x.cells.size.beq n
  ·rfl
  ·simp only [cond_true]
   unfold aput
   simp only [g, Bool.not_false, Bool.true_and]
   cases (x.cells.toList.all one && (off + x.cells.toList.length).ble cells.length) <;> rfl
theorem astore_to {T : Tab} {t : TypeId} {b off : Nat} {H : Heap} {cells l : List Value} {e : TypeId} {x : Value} (g : H.get b = some ⟨cells, e, false⟩) (h : astoreC T t cells off x = some l) :
    astore T t (.pointer (some ⟨b, off, none⟩)) x H = some (H.put b ⟨l, e, false⟩) := by
 rw [astore_at g, h]
theorem astoreC_one {T : Tab} {t : TypeId} {cells : List Value} {off : Nat} {x : Value} (hs : T.size t = some 1) (hx : x.cells = #[x]) (h1 : one x = true) (hq : off < cells.length) : astoreC T t cells off x = some (cells.set off x) := by
 unfold astoreC
 simp only [hs, hx]
 have e1 : (#[x] : Array Value).size.beq 1 = true := rfl
 have e3 : (off + [x].length).ble cells.length = true := by rw [ble_dec]; simp; omega
 simp only [e1, cond_true, List.all_cons, h1, List.all_nil, Bool.and_true, Bool.true_and, e3]
 rfl
theorem see_int {k : IntKind} {x y : Int} {o : Option Value} (h1 : o = some (.int k x)) (h : x = y) : o = some (.int k y) := by rw [h1, h]
theorem see_bool {x y : Bool} {o : Option Value} (h1 : o = some (.bool x)) (h : x = y) : o = some (.bool y) := by rw [h1, h]
theorem w64 {x y : Int} (h : x = y) (h1 : -9223372036854775808 ≤ y) (h2 : y ≤ 9223372036854775807) : IntKind.i64.wrap x = y := by
 subst h
 rw [IntKind.wrap_i64]
 omega
theorem wu32 {x y : Int} (h : x = y) (h1 : 0 ≤ y) (h2 : y < 4294967296) : IntKind.u32.wrap x = y := by
 subst h
 rw [IntKind.wrap_u32]
 omega
theorem wu64 {x y : Int} (h : x = y) (h1 : 0 ≤ y) (h2 : y < 18446744073709551616) : IntKind.u64.wrap x = y := by
 subst h
 simp only [IntKind.wrap]
 simp [IntKind.bits, IntKind.signed]
 omega
structure Up (lo : Nat) (H H' : Heap) : Prop where
 n : H.n ≤ H'.n
 get : ∀ b, b < lo → H'.get b = H.get b
section
variable {lo : Nat} {a b c : Heap}
theorem Up.refl (H : Heap) : Up lo H H := ⟨Nat.le_refl _, fun _ _ => rfl⟩
theorem Up.trans (h : Up lo a b) (k : Up lo b c) : Up lo a c := ⟨Nat.le_trans h.n k.n, fun x hx => (k.get x hx).trans (h.get x hx)⟩
theorem Up.push (hl : lo ≤ b.n) (h : Up lo a b) (o : Ob) : Up lo a (b.push o) := ⟨Nat.le_trans h.n (by simp [Heap.n_push]), fun x hx => by rw [Heap.get_push, if_neg (by omega)]; exact h.get x hx⟩
theorem Up.put (h : Up lo a b) {x : Nat} (hx : lo ≤ x) (o : Ob) : Up lo a (b.put x o) := ⟨h.n, fun y hy => by rw [Heap.get_put, if_neg (by omega)]; exact h.get y hy⟩
theorem Up.kill (h : Up lo a b) {x : Nat} (hx : lo ≤ x) : Up lo a (b.kill x) := ⟨h.n, fun y hy => by rw [Heap.get_kill, if_neg (by omega)]; exact h.get y hy⟩
theorem Up.mono {lo' : Nat} (h : Up lo a b) (hl : lo' ≤ lo) : Up lo' a b := ⟨h.n, fun x hx => h.get x (by omega)⟩
end
structure Gr (H : Heap) (lo : Nat) (e : TypeId) (esz : Nat) (v : Value) (len : Nat) (xs : List Value) : Prop where
 size : xs.length = len * esz
 at_ : (v = .slice none 0 0 ∧ len = 0) ∨ ∃ B, v = .slice (some ⟨B, 0, none⟩) len (unk + esz) ∧ H.get B = some ⟨xs, e, false⟩ ∧ B < H.n ∧ lo ≤ B
theorem Gr.nil {H : Heap} {lo : Nat} {e : TypeId} {esz : Nat} : Gr H lo e esz (.slice none 0 0) 0 [] := ⟨by simp, .inl ⟨rfl, rfl⟩⟩
theorem Gr.keep {H H' : Heap} {lo lo' : Nat} {e : TypeId} {esz : Nat} {v : Value} {len : Nat} {xs : List Value} (h : Gr H lo e esz v len xs) (hn : H.n ≤ H'.n) (hk : ∀ b, lo ≤ b → b < H.n → H'.get b = H.get b) : Gr H' lo e esz v len xs := by
 refine ⟨h.size, ?_⟩
 rcases h.at_ with h1 | ⟨B, h1, h2, h3, h4⟩
 ·exact .inl h1
 ·exact .inr ⟨B, h1, by rw [hk B h4 h3]; exact h2, by omega, h4⟩
theorem asrc_blk {H : Heap} {size b off n cap : Nat} {cells l : List Value} {e : TypeId} {ro : Bool} (g : H.get b = some ⟨cells, e, ro⟩) (hl : (cells.drop off).take (n * size) = l) (hn : l.length = n * size) : asrc size (.slice (some ⟨b, off, none⟩) n cap) H = some (n, l) := by
 unfold asrc
 have : l.length.beq (n * size) = true := by rw [beq_dec]; simp [hn]
 simp only [g, hl, this, cond_true]
def opsOf : Code → Array Oper | .region _ o _ => o | _ => #[]
section
variable {P : Program} {T : Tab} {n : Nat} {ops : Array Oper} {Q : Xt → St → Prop} {s : St}
theorem aw_draw0w {id : Nat} (hl : loose T ops = []) (h : AOps P T n ops ops.toList (Q .normal) s) : Aw P T n (.region id ops true) Q s := by
 obtain ⟨l⟩ := ops
 exact aw_draw0 hl h
end
def H0 : Heap := ⟨.lf, 0⟩
theorem data_calls [Bs] {P : Program} {T : Tab} (hP : ProgOk P T) {f : FuncId} {args : Array Value} {v : Value} (ha : args.toList.all closed = true) (hv : closed v = true) (h : ACall P T f args ⟨.lf, 0⟩ fun r _ => r = v) (w : World) (hw : OnBs w) : Calls P f args w fun e w' => e = .returned v ∧ Quiet w w' := by
 have hwf : HWf ⟨.lf, 0⟩ := fun b hb => by simp [Heap.get] at hb; cases b <;> simp [Tr.get] at hb
 have hr : Rep P (fun _ => none) ⟨.lf, 0⟩ w := ⟨⟨fun b L hb => (by cases hb), fun b L o hb => (by cases hb), fun b1 b2 L1 L2 hb => (by cases hb)⟩, ⟨hw, fun b L hb => (by cases hb)⟩⟩
 refine (h.calls hP hwf hr (args' := args) ⟨rfl, fun i x hx => ⟨x, hx, VR.of_closed (List.all_eq_true.1 ha x (List.mem_of_getElem? hx))⟩⟩).mono fun e w' hp => ?_
 obtain ⟨v1, H', rfl, v', m', rfl, hv', _, hf⟩ := hp
 rw [hv'.closed_eq hv]
 exact ⟨rfl, hf.os, hf.tape, hf.output, hf.size, fun c hc => hf.keep c hc (by rintro ⟨b, L, hb, _⟩; cases hb)⟩
def addOrc (g : FuncId → List Value → Option Value) (f0 : FuncId) (sp : List Value → Option Value) (f : FuncId) (args : List Value) : Option Value := bif Nat.beq f f0 then sp args else g f args
theorem ProgOk.add [Bs] {P : Program} {T : Tab} (h : ProgOk P T) (f0 : FuncId) (sp : List Value → Option Value) (hs : ∀ args v, sp args = some v → closed v = true ∧ args.all closed = true ∧ ∀ w, OnBs w → Calls P f0 args.toArray w fun e w' => e = .returned v ∧ Quiet w w') : ProgOk P { T with orc := addOrc T.orc f0 sp } := by
 refine h.withOrc _ fun f args v ho => ?_
 unfold addOrc at ho
 cases hb : Nat.beq f f0
 ·rw [hb] at ho; exact h.orc f args v ho
 ·rw [hb] at ho
  have := Nat.eq_of_beq_eq_true hb
  subst this
  exact hs args v ho
theorem ProgOk.know [Bs] {P : Program} {T : Tab} (h : ProgOk P T) (f0 : FuncId) (sp : List Value → Option Value) (hs : ∀ args v, sp args = some v → closed v = true ∧ args.all closed = true ∧ ACall P T f0 args.toArray ⟨.lf, 0⟩ fun r _ => r = v) : ProgOk P { T with orc := addOrc T.orc f0 sp } :=
 h.add f0 sp fun args v hv => ⟨(hs args v hv).1, (hs args v hv).2.1, fun w hw => data_calls h (by simpa using (hs args v hv).2.1) (hs args v hv).1 (hs args v hv).2.2 w hw⟩
def answers (v : Value) : Option (Value × Heap) → Bool
 | some (u, _) => veq u v
 | none => false
theorem acall_answers {P : Program} {T : Tab} {k : Nat} {f : FuncId} {args : Array Value} {H : Heap} {v : Value} (h : answers v (evCall P T k f args H) = true) : ACall P T f args H fun r _ => r = v := by
 unfold answers at h
 split at h
 ·rename_i u H' he
  unfold ACall
  exact ⟨k, u, H', he, veq_eq h⟩
 ·cases h
end Go.Ev
end
section
namespace Go.Ev
open Go
set_option linter.unusedVariables false
set_option linter.unusedSimpArgs false
theorem aappend_nil {T : Tab} {st xt e : TypeId} {xd : TypeDesc} {s0 by_ : Nat} {z : Value} (hu : T.under st = some (.slice e)) (hx : T.under xt = some xd) (hi : isIntD xd = false) (hs : T.size e = some (s0 + 1)) (hb : T.bytes e = some (by_ + 1)) (hz : T.zero e = some z)
    {H : Heap} {x : Value} {n : Nat} {new : List Value} (hsrc : asrc (s0 + 1) x H = some (n, new)) (hn : 0 < n) (hbig : n * (by_ + 1) ≤ 140737488355328) :
    aappend T st xt (.slice none 0 0) x H = some (.slice (some ⟨H.n, 0, none⟩) n (unk + (s0 + 1)), H.push ⟨new, e, false⟩) := by
 have en : n.beq 0 = false := by rw [beq_dec]; simp; omega
 have e2 : (n * (by_ + 1)).ble 140737488355328 = true := by rw [ble_dec]; simp [hbig]
 unfold aappend
 simp only [hu, hx, hi, hs, hb, hz, hsrc, cond_false, Nat.beq_refl, Bool.and_self, cond_true, en, e2]
theorem aappend_grow {T : Tab} {st xt e : TypeId} {xd : TypeDesc} {s0 by_ : Nat} {z : Value} (hu : T.under st = some (.slice e)) (hx : T.under xt = some xd) (hi : isIntD xd = false) (hs : T.size e = some (s0 + 1)) (hb : T.bytes e = some (by_ + 1)) (hz : T.zero e = some z)
    {H : Heap} {x : Value} {B len n : Nat} {xs new : List Value} (hget : H.get B = some ⟨xs, e, false⟩) (hxs : xs.length = len * (s0 + 1)) (hsrc : asrc (s0 + 1) x H = some (n, new)) (hone : new.all one = true) (hn : 0 < n) (hne : blockOf x ≠ some B)
    (hbig : (len + n) * (by_ + 1) ≤ 140737488355328) :
    aappend T st xt (.slice (some ⟨B, 0, none⟩) len (unk + (s0 + 1))) x H = some (.slice (some ⟨H.n, 0, none⟩) (len + n) (unk + (s0 + 1)), (H.kill B).push ⟨xs ++ new, e, false⟩) := by
 have en : n.beq 0 = false := by rw [beq_dec]; simp; omega
 have e1 : (blockOf x == some B) = false := by simpa using hne
 have e2 : unk.ble (unk + (s0 + 1)) = true := by rw [ble_dec]; simp
 have e3 : (0 + len * (s0 + 1)).ble xs.length = true := by rw [ble_dec]; simp [hxs]
 have e4 : ((len + n) * (by_ + 1)).ble 140737488355328 = true := by rw [ble_dec]; simp [hbig]
 have e7 : (xs.drop 0).take (len * (s0 + 1)) = xs := by rw [List.drop_zero, List.take_of_length_le (by rw [hxs]; exact Nat.le_refl _)]
 unfold aappend
 simp only [hu, hx, hi, hs, hb, hz, hsrc, cond_false, e1, hget, e2, cond_true, Nat.beq_refl, en, e3, hone, e4, Bool.and_self, e7]
def rowB (T : Tab) (t : TypeId) : Bool := match T.under t with | some d => isRow d | none => false
theorem aloadC_rowB {T : Tab} {t : TypeId} {n off : Nat} {cells l : List Value} (hu : rowB T t = true) (hs : T.size t = some n) (hl : l.length = n) (hx : (cells.drop off).take n = l) : aloadC T t cells off = some (.agg l.toArray) := by
 unfold rowB at hu
 split at hu
 ·rename_i d hd; exact aloadC_row hd hs hu hl hx
 ·cases hu
def cellB (T : Tab) (t : TypeId) : Bool := match T.under t with | some d => !isRow d | none => false
theorem aloadC_cellB {T : Tab} {t : TypeId} {n off : Nat} {cells : List Value} {x : Value} (hu : cellB T t = true) (hs : T.size t = some n) (hx : cells[off]? = some x) : aloadC T t cells off = some x := by
 unfold cellB at hu
 split at hu
 ·rename_i d hd; exact aloadC_one hd hs (by simpa using hu) hx
 ·cases hu
end Go.Ev
end
section
namespace Go.Ev
open Go
set_option linter.unusedVariables false
set_option linter.unusedSimpArgs false
def LowB (lo : Nat) (u : Value) : Prop := ∀ b, readsB u b → b < lo
theorem lowB_ptr {lo b off : Nat} (h : b < lo) : LowB lo (.pointer (some ⟨b, off, none⟩)) := fun x hx => by
 rcases hx with ⟨o, e⟩ | ⟨o, n, c, e⟩
 ·injection e with e; injection e with e; injection e with e1 e2; omega
 ·cases e
def LooksU (T : Tab) (lo : Nat) (tm : Tr Value) (o : Oper) (H : Heap) : Prop := ∃ x u v, lookArg o.op = some x ∧ aeval tm x = some u ∧ alook T o.op u H = some v ∧ veq v v = true ∧ LowB lo u
def nl (T : Tab) (ops : Array Oper) (o : Oper) : Bool := (loose T ops).all fun p => match ops[p.1]? with | some q => !(q.dst == o.dst) | none => true
def AStepU (P : Program) (T : Tab) (lo n : Nat) (ops : Array Oper) (o : Oper) (Q : St → Prop) (s : St) : Prop :=
 bif awanted ops s.tm o then
  match aop P T s.tm o s.H with
  | some (.val v, H) => Up lo s.H H ∧ (cls T o.op = .look → nl T ops o = false → LooksU T lo s.tm o s.H) ∧ APut n o.dst v s.tm H Q
  | some (.skip, H) => Up lo s.H H ∧ APut n o.dst undef s.tm H Q
  | some (.enter f args, H) => Up lo s.H H ∧ ACall P T f args H fun v H' => Up lo H H' ∧ APut n o.dst v s.tm H' Q
  | none => False
 else APut n o.dst undef s.tm s.H Q
def AOpsU (P : Program) (T : Tab) (lo n : Nat) (ops : Array Oper) : List Oper → (St → Prop) → St → Prop
 | [], Q, s => Q s
 | o :: l, Q, s => AStepU P T lo n ops o (AOpsU P T lo n ops l Q) s
section
variable {P : Program} {T : Tab} {lo n : Nat} {ops : Array Oper} {s : St} {K : St → Prop} {Q : Xt → St → Prop}
theorem fin_H {dst : Option Tmp} {v : Value} {tm : Tr Value} {H : Heap} {s' : St} (h : fin n dst tm v H = some s') : s'.H = H := by
 unfold fin at h; split at h <;> cases h; rfl
end
attribute [irreducible] AOpsU
theorem Gr.low {H : Heap} {lo lo' : Nat} {e : TypeId} {esz : Nat} {v : Value} {len : Nat} {xs : List Value} (h : Gr H lo e esz v len xs) (hl : lo' ≤ lo) : Gr H lo' e esz v len xs := by
 refine ⟨h.size, ?_⟩
 rcases h.at_ with h1 | ⟨B, h1, h2, h3, h4⟩
 ·exact .inl h1
 ·exact .inr ⟨B, h1, h2, h3, by omega⟩
end Go.Ev
end
section
namespace Go.Ev
open Go
set_option linter.unusedVariables false
set_option linter.unusedSimpArgs false
inductive Kf where
 | next (b : Code)
 | blk (id : Nat)
 | loop (a : Code)
 | inv (R : St → Prop)
 | call (n : Nat) (dst : Option Tmp) (tm : Tr Value) (ops : Array Oper) (l : List Oper) (rs : Array ResultVar)
inductive Pos where
 | code (c : Code)
 | ops (ops : Array Oper) (l : List Oper)
 | done (x : Xt)
structure Cf where
 n : Nat
 p : Pos
 K : List Kf
 s : St
section
variable (P : Program) (T : Tab)
def kont : Nat → List Kf → (Xt → St → Prop) → Xt → St → Prop
 | _, [], Q => Q
 | n, .next b :: K, Q => Xt.then (Aw P T n b (kont n K Q)) (kont n K Q)
 | n, .blk id :: K, Q => Xt.inBlock id (kont n K Q)
 | n, .loop a :: K, Q => Xt.then (Aw P T n (.loop a) (kont n K Q)) (kont n K Q)
 | n, .inv R :: K, Q => Xt.then R (kont n K Q)
 | _, .call m dst tm ops l rs :: K, Q => bodyQ T rs fun v H => APut m dst v tm H (AOps P T m ops l (kont m K Q .normal))
def Den (c : Cf) (Q : Xt → St → Prop) : Prop :=
 match c.p with
 | .code a => Aw P T c.n a (kont P T c.n c.K Q) c.s
 | .ops ops l => AOps P T c.n ops l (kont P T c.n c.K Q .normal) c.s
 | .done x => kont P T c.n c.K Q x c.s
def sCode (n : Nat) (K : List Kf) (s : St) : Code → Option Cf
 | .skip => some ⟨n, .done .normal, K, s⟩
 | .label _ => some ⟨n, .done .normal, K, s⟩
 | .ret => some ⟨n, .done .ret, K, s⟩
 | .exit i => some ⟨n, .done (.exit i), K, s⟩
 | .seq a b => some ⟨n, .code a, .next b :: K, s⟩
 | .block i a => some ⟨n, .code a, .blk i :: K, s⟩
 | .scope a => some ⟨n, .code a, K, s⟩
 | .loop a => some ⟨n, .code a, .loop a :: K, s⟩
 | .cond x a b => match aeval s.tm x with
  | some (.bool t) => some ⟨n, .code (bif t then a else b), K, s⟩
  | _ => none
 | .region _ ops draw => bif draw && !(loose T ops).isEmpty then none else some ⟨n, .ops ops ops.toList, K, s⟩
 | _ => none
def sPut (n : Nat) (K : List Kf) (ops : Array Oper) (l : List Oper) (dst : Option Tmp) (tm : Tr Value) (v : Value) (H : Heap) : Option Cf :=
 match dput n tm dst v with
 | some tm' => some ⟨n, .ops ops l, K, ⟨tm', H⟩⟩
 | none => none
def sEnter (n : Nat) (K : List Kf) (ops : Array Oper) (l : List Oper) (dst : Option Tmp) (tm : Tr Value) (f : FuncId) (args : Array Value) (H : Heap) : Option Cf :=
 match T.orc f args.toList with
 | some v => sPut n K ops l dst tm v H
 | none => match T.fn f with
  | some fn => match fn.body with
   | some b => some ⟨args.size + (fn.ntmps - args.size), .code b, .call n dst tm ops l fn.results :: K, ⟨initTm 0 args, H⟩⟩
   | none => none
  | none => none
def sOp (n : Nat) (K : List Kf) (s : St) (ops : Array Oper) (o : Oper) (l : List Oper) : Option Cf :=
 bif awanted ops s.tm o then
  match aop P T s.tm o s.H with
  | some (.val v, H) => sPut n K ops l o.dst s.tm v H
  | some (.skip, H) => sPut n K ops l o.dst s.tm undef H
  | some (.enter f args, H) => sEnter T n K ops l o.dst s.tm f args H
  | none => none
 else sPut n K ops l o.dst s.tm undef s.H
def sDone (n : Nat) (s : St) (x : Xt) : List Kf → Option Cf
 | [] => none
 | .next b :: K => match x with
  | .normal => some ⟨n, .code b, K, s⟩
  | _ => some ⟨n, .done x, K, s⟩
 | .loop a :: K => match x with
  | .normal => some ⟨n, .code (.loop a), K, s⟩
  | _ => some ⟨n, .done x, K, s⟩
 | .inv _ :: K => match x with
  | .normal => none
  | _ => some ⟨n, .done x, K, s⟩
 | .blk id :: K => match x with
  | .exit i => bif i.beq id then some ⟨n, .done .normal, K, s⟩ else some ⟨n, .done x, K, s⟩
  | _ => some ⟨n, .done x, K, s⟩
 | .call m dst tm ops l rs :: K => match x with
  | .exit _ => none
  | _ => match aresults T s.tm s.H rs with
   | some v => sPut m K ops l dst tm v s.H
   | none => none
def stepF (c : Cf) : Option Cf :=
 match c.p with
 | .code a => sCode T c.n c.K c.s a
 | .ops _ [] => some ⟨c.n, .done .normal, c.K, c.s⟩
 | .ops ops (o :: l) => sOp P T c.n c.K c.s ops o l
 | .done x => sDone T c.n c.s x c.K
def go : Nat → Cf → Cf
 | 0, c => c
 | k + 1, c => match stepF P T c with
  | some c' => go k c'
  | none => c
end
section
variable {P : Program} {T : Tab} {Q : Xt → St → Prop} {c c' : Cf}
theorem sPut_spec {n : Nat} {K : List Kf} {ops : Array Oper} {l : List Oper} {dst : Option Tmp} {tm : Tr Value} {v : Value} {H : Heap} (h : sPut n K ops l dst tm v H = some c') (hd : Den P T c' Q) :
    APut n dst v tm H (AOps P T n ops l (kont P T n K Q .normal)) := by
 unfold sPut at h
 unfold APut
 split at h
 ·rename_i tm' e
  cases h
  rw [e]
  exact hd
 ·cases h
theorem stepF_sound (h : stepF P T c = some c') (hd : Den P T c' Q) : Den P T c Q := by
 obtain ⟨n, p, K, s⟩ := c
 cases p with
 | code a =>
  show Aw P T n a (kont P T n K Q) s
  replace h : sCode T n K s a = some c' := h
  unfold sCode at h
  split at h
  ·cases h; exact aw_skip hd
  ·cases h; exact aw_label hd
  ·cases h; exact aw_ret hd
  ·cases h; exact aw_exit hd
  ·cases h; exact aw_seq hd
  ·cases h; exact aw_block hd
  ·cases h; exact aw_scope hd
  ·cases h; exact aw_loop_once hd
  ·rename_i x a b
   split at h
   ·rename_i t e
    cases h
    exact aw_cond e hd
   ·cases h
  ·rename_i i ops draw
   cases draw
   ·simp only [Bool.false_and, cond_false] at h
    cases h
    exact aw_reg hd
   ·cases hl : loose T ops with
    | nil =>
     simp only [hl, List.isEmpty_nil, Bool.not_true, Bool.and_false, cond_false] at h
     cases h
     exact aw_draw0w hl hd
    | cons a r =>
     simp [hl] at h
  ·cases h
 | ops ops l =>
  cases l with
  | nil =>
   replace h : some (⟨n, .done .normal, K, s⟩ : Cf) = some c' := h
   cases h
   exact aops_nil hd
  | cons o l =>
   replace h : sOp P T n K s ops o l = some c' := h
   show AOps P T n ops (o :: l) (kont P T n K Q .normal) s
   unfold sOp at h
   refine aops_cons ?_
   unfold AStep
   cases hw : awanted ops s.tm o
   ·rw [hw] at h
    exact sPut_spec h hd
   ·rw [hw] at h
    simp only [cond_true] at h ⊢
    split at h
    ·rename_i v H e
     rw [e]; exact sPut_spec h hd
    ·rename_i H e
     rw [e]; exact sPut_spec h hd
    ·rename_i f args H e
     rw [e]
     unfold sEnter at h
     split at h
     ·rename_i v e1
      exact acall_orc e1 (sPut_spec h hd)
     ·rename_i e1
      split at h
      ·rename_i fn e2
       split at h
       ·rename_i b e3
        cases h
        exact acall_of e1 e2 e3 hd
       ·cases h
      ·cases h
    ·cases h
 | done x =>
  replace h : sDone T n s x K = some c' := h
  show kont P T n K Q x s
  cases K with
  | nil => cases h
  | cons k K =>
   cases k with
   | next b =>
    show Xt.then _ _ x s
    cases x with
    | normal => cases h; exact then_normal hd
    | ret => cases h; exact then_ret hd
    | exit i => cases h; exact then_exit hd
   | loop a =>
    show Xt.then _ _ x s
    cases x with
    | normal => cases h; exact then_normal hd
    | ret => cases h; exact then_ret hd
    | exit i => cases h; exact then_exit hd
   | inv R =>
    show Xt.then _ _ x s
    cases x with
    | normal => cases h
    | ret => cases h; exact then_ret hd
    | exit i => cases h; exact then_exit hd
   | blk id =>
    show Xt.inBlock _ _ x s
    cases x with
    | normal => cases h; exact blk_normal hd
    | ret => cases h; exact blk_ret hd
    | exit i =>
     replace h : (bif i.beq id then some (⟨n, .done .normal, K, s⟩ : Cf) else some ⟨n, .done (.exit i), K, s⟩) = some c' := h
     cases hb : i.beq id
     ·rw [hb] at h; cases h; exact blk_miss hb hd
     ·rw [hb] at h; cases h
      have := Nat.eq_of_beq_eq_true hb
      subst this
      exact blk_hit hd
   | call m dst tm ops l rs =>
    cases x with
    | exit i => cases h
    | normal =>
     replace h : (match aresults T s.tm s.H rs with | some v => sPut m K ops l dst tm v s.H | none => none) = some c' := h
     split at h
     ·rename_i v e; exact ⟨v, e, sPut_spec h hd⟩
     ·cases h
    | ret =>
     replace h : (match aresults T s.tm s.H rs with | some v => sPut m K ops l dst tm v s.H | none => none) = some c' := h
     split at h
     ·rename_i v e; exact ⟨v, e, sPut_spec h hd⟩
     ·cases h
def opsC (c : Cf) : Array Oper := match c.p with | .ops o _ => o | _ => #[]
def opC (c : Cf) : Oper := match c.p with | .ops _ (o :: _) => o | _ => default
def restC (c : Cf) : List Oper := match c.p with | .ops _ (_ :: l) => l | _ => []
def atOp (c : Cf) : Bool := match c.p with | .ops _ (_ :: _) => true | _ => false
def okOp (c : Cf) (t : Nat) : Bool := atOp c && (awanted (opsC c) c.s.tm (opC c) && (match (opC c).dst with | some d => d.beq t && d.blt c.n | none => false))
def okNo (c : Cf) : Bool := atOp c && (awanted (opsC c) c.s.tm (opC c) && (match (opC c).dst with | some _ => false | none => true))
def Cf.put (c : Cf) (t : Nat) (v : Value) (H : Heap) : Cf := ⟨c.n, .ops (opsC c) (restC c), c.K, ⟨c.s.tm.put t (some v), H⟩⟩
def Cf.skp (c : Cf) (H : Heap) : Cf := ⟨c.n, .ops (opsC c) (restC c), c.K, ⟨c.s.tm, H⟩⟩
def Cf.see (c : Cf) (t : Nat) (v : Value) : Cf := ⟨c.n, c.p, c.K, ⟨c.s.tm.put t (some v), c.s.H⟩⟩
theorem atOp_spec (h : atOp c = true) : c = ⟨c.n, .ops (opsC c) (opC c :: restC c), c.K, c.s⟩ := by
 obtain ⟨n, p, K, s⟩ := c
 cases p with
 | code a => cases h
 | done x => cases h
 | ops ops l => cases l with
  | nil => cases h
  | cons o l => rfl
theorem okOp_spec {t : Nat} (h : okOp c t = true) : atOp c = true ∧ awanted (opsC c) c.s.tm (opC c) = true ∧ ∀ v, dput c.n c.s.tm (opC c).dst v = some (c.s.tm.put t (some v)) := by
 unfold okOp at h
 simp only [Bool.and_eq_true] at h
 obtain ⟨h1, h2, h3⟩ := h
 refine ⟨h1, h2, fun v => ?_⟩
 split at h3
 ·rename_i d e
  simp only [Bool.and_eq_true] at h3
  rw [e, Nat.eq_of_beq_eq_true h3.1]
  unfold dput
  have := h3.2
  rw [Nat.eq_of_beq_eq_true h3.1] at this
  simp only [this, cond_true]
 ·cases h3
theorem okNo_spec (h : okNo c = true) : atOp c = true ∧ awanted (opsC c) c.s.tm (opC c) = true ∧ (opC c).dst = none := by
 unfold okNo at h
 simp only [Bool.and_eq_true] at h
 obtain ⟨h1, h2, h3⟩ := h
 refine ⟨h1, h2, ?_⟩
 split at h3
 ·cases h3
 ·rename_i e; exact e
theorem den_ops {n : Nat} {ops : Array Oper} {l : List Oper} {K : List Kf} {s : St} : Den P T ⟨n, .ops ops l, K, s⟩ Q = AOps P T n ops l (kont P T n K Q .normal) s := rfl
theorem cf_val (t : Nat) (v : Value) (H' : Heap) (ho : okOp c t = true) (ha : aop P T c.s.tm (opC c) c.s.H = some (.val v, H')) (hk : Den P T (c.put t v H') Q) : Den P T c Q := by
 obtain ⟨h1, h2, h3⟩ := okOp_spec ho
 rw [atOp_spec h1, den_ops]
 exact aops_res h2 ha (ares_val (h3 v) hk)
theorem cf_skip (H' : Heap) (ho : okNo c = true) (ha : aop P T c.s.tm (opC c) c.s.H = some (.skip, H')) (hk : Den P T (c.skp H') Q) : Den P T c Q := by
 obtain ⟨h1, h2, h3⟩ := okNo_spec ho
 rw [atOp_spec h1, den_ops]
 exact aops_res h2 ha (ares_skip (by rw [h3]; rfl) hk)
theorem cf_call (t : Nat) (f : FuncId) (args : Array Value) (H0 : Heap) {R : Value → Heap → Prop} (ho : okOp c t = true) (ha : aop P T c.s.tm (opC c) c.s.H = some (.enter f args, c.s.H)) (hH : c.s.H = H0) (hc : ACall P T f args H0 R)
    (hk : ∀ v H', R v H' → Den P T (c.put t v H') Q) : Den P T c Q := by
 obtain ⟨h1, h2, h3⟩ := okOp_spec ho
 rw [atOp_spec h1, den_ops]
 rw [← hH] at hc
 exact aops_res h2 ha (ares_call (hc.mono fun v H' h => aput_k (h3 v) (hk v H' h)))
theorem cf_loop (n : Nat) (a : Code) (K : List Kf) (hn : c.n = n) (hp : c.p = .code (.loop a)) (hK : c.K = K) (I : Nat → St → Prop) (m : Nat) (h0 : I m c.s)
    (round : ∀ m s, I m s → ∀ R : St → Prop, (∀ s', (∃ m', m' < m ∧ I m' s') → R s') → Den P T ⟨n, .code a, .inv R :: K, s⟩ Q) : Den P T c Q := by
 obtain ⟨n', p', K', s⟩ := c
 cases hn; cases hp; cases hK
 exact aw_loop I m h0 fun m s h => round m s h _ fun s' h => h
def invH (c : Cf) : Option (St → Prop) := match c.p with | .done .normal => (match c.K with | .inv R :: _ => some R | _ => none) | _ => none
theorem cf_inv (R : St → Prop) (h : invH c = some R) (hr : R c.s) : Den P T c Q := by
 obtain ⟨n, p, K, s⟩ := c
 unfold invH at h
 split at h
 ·rename_i e
  split at h
  ·rename_i R' K' e2
   cases h
   cases e; cases e2
   exact then_normal hr
  ·cases h
 ·cases h
def opsD (c : Cf) : Array Oper := match c.p with | .code (.region _ ops _) => ops | _ => #[]
def atD (c : Cf) : Bool := match c.p with | .code (.region _ _ true) => true | _ => false
theorem atD_spec (h : atD c = true) : ∃ i, c = ⟨c.n, .code (.region i (opsD c) true), c.K, c.s⟩ := by
 obtain ⟨n, p, K, s⟩ := c
 unfold atD at h
 split at h
 ·rename_i i ops e
  cases e
  exact ⟨i, rfl⟩
 ·cases h
theorem cf_drawW (h : atD c = true) (hk : ATr P T c.n (opsD c) (opsD c).toList [] (fun r s => (loose T (opsD c)).all (steady T (opsD c) r) = true ∧ Den P T ⟨c.n, .done .normal, c.K, s⟩ Q) c.s) : Den P T c Q := by
 obtain ⟨i, e⟩ := atD_spec h
 rw [e]
 exact aw_drawW hk
theorem acall_cf {f : FuncId} {fn : Func} {b : Code} {args : Array Value} {H : Heap} {R : Value → Heap → Prop} (n : Nat) (tm : Tr Value) (ho : T.orc f args.toList = none) (hf : T.fn f = some fn) (hb : fn.body = some b) (hn : args.size + (fn.ntmps - args.size) = n) (ht : initTm 0 args = tm)
    (h : Den P T ⟨n, .code b, [], ⟨tm, H⟩⟩ (bodyQ T fn.results R)) : ACall P T f args H R := by
 subst hn ht
 exact acall_of ho hf hb h
def atEnd (c : Cf) : Bool := match c.p with
 | .done .normal => c.K.isEmpty
 | .done .ret => c.K.isEmpty
 | _ => false
theorem cf_end {rs : Array ResultVar} {R : Value → Heap → Prop} (v : Value) (H : Heap) (he : atEnd c = true) (hv : aresults T c.s.tm c.s.H rs = some v) (hH : c.s.H = H) (hr : R v H) : Den P T c (bodyQ T rs R) := by
 subst hH
 obtain ⟨n, p, K, s⟩ := c
 unfold atEnd at he
 split at he
 ·rename_i e
  cases e
  cases K with
  | nil => exact ⟨v, hv, hr⟩
  | cons k K => cases he
 ·rename_i e
  cases e
  cases K with
  | nil => exact ⟨v, hv, hr⟩
  | cons k K => cases he
 ·cases he
end
attribute [irreducible] Den
end Go.Ev
end
section
namespace Go.Ev
open Go
set_option linter.unusedVariables false
set_option linter.unusedSimpArgs false
def calm (T : Tab) (ops : Array Oper) (k : Nat) : Bool := (loose T ops).any fun p => (Nat.min p.1 p.2).ble k && k.ble (Nat.max p.1 p.2)
def lkat (T : Tab) (ops : Array Oper) (k : Nat) : Bool := (loose T ops).any fun p => p.1.beq k
def AStepV (P : Program) (T : Tab) (lo n : Nat) (ops : Array Oper) (k : Nat) (o : Oper) (Q : St → Prop) (s : St) : Prop :=
 bif awanted ops s.tm o then
  match aop P T s.tm o s.H with
  | some (.val v, H) => (calm T ops k = true → Up lo s.H H) ∧ (cls T o.op = .look → lkat T ops k = true → LooksU T lo s.tm o s.H) ∧ APut n o.dst v s.tm H Q
  | some (.skip, H) => (calm T ops k = true → Up lo s.H H) ∧ APut n o.dst undef s.tm H Q
  | some (.enter f args, H) => (calm T ops k = true → Up lo s.H H) ∧ ACall P T f args H fun v H' => (calm T ops k = true → Up lo H H') ∧ APut n o.dst v s.tm H' Q
  | none => False
 else APut n o.dst undef s.tm s.H Q
def AOpsV (P : Program) (T : Tab) (lo n : Nat) (ops : Array Oper) : Nat → List Oper → (St → Prop) → St → Prop
 | _, [], Q, s => Q s
 | k, o :: l, Q, s => AStepV P T lo n ops k o (AOpsV P T lo n ops (k + 1) l Q) s
section
variable {P : Program} {T : Tab} {lo n : Nat} {ops : Array Oper} {s : St} {K : St → Prop} {Q : Xt → St → Prop}
theorem AStepV.spec {o : Oper} {i : Nat} {Q : St → Prop} (h : AStepV P T lo n ops i o Q s) : ∃ k s', step1 P T n (evCall P T k) ops o s = some s' ∧ (calm T ops i = true → Up lo s.H s'.H) ∧ Q s' ∧ (awanted ops s.tm o = true → cls T o.op = .look → lkat T ops i = true → LooksU T lo s.tm o s.H) := by
 unfold AStepV at h
 unfold step1
 cases hw : awanted ops s.tm o
 ·rw [hw] at h
  obtain ⟨s', h1, h2⟩ := APut.spec h
  exact ⟨0, s', h1, fun _ => by rw [fin_H h1]; exact Up.refl _, h2, fun e => by cases e⟩
 ·rw [hw] at h
  simp only [cond_true] at h ⊢
  split at h
  ·rename_i v H ha
   obtain ⟨hu, h0, h⟩ := h
   obtain ⟨s', h1, h2⟩ := APut.spec h
   exact ⟨0, s', by simp only [ha, h1], by rw [fin_H h1]; exact hu, h2, fun _ => h0⟩
  ·rename_i H ha
   obtain ⟨hu, h⟩ := h
   obtain ⟨s', h1, h2⟩ := APut.spec h
   refine ⟨0, s', by simp only [ha, h1], by rw [fin_H h1]; exact hu, h2, fun _ hlk _ => ?_⟩
   exfalso
   rcases look_op hlk with ⟨t, x, hop⟩ | ⟨sd, dd, x, hop⟩ <;>
    ·unfold aop at ha
     simp only [hop] at ha
     split at ha
     ·unfold val at ha; split at ha <;> cases ha
     ·cases ha
  ·rename_i f args H ha
   obtain ⟨hu, h⟩ := h
   unfold ACall at h
   obtain ⟨k, v, H', hc, hu2, h⟩ := h
   obtain ⟨s', h1, h2⟩ := APut.spec h
   refine ⟨k, s', by simp only [ha, hc, h1], fun hcm => by rw [fin_H h1]; exact (hu hcm).trans (hu2 hcm), h2, fun _ hlk _ => ?_⟩
   rw [enter_act ha] at hlk
   cases hlk
  ·exact h.elim
theorem AOpsV.spec : ∀ (l : List Oper) (i : Nat) (Q : St → Prop) (s : St), AOpsV P T lo n ops i l Q s → ∃ k r s', evTrace P T n (evCall P T k) ops l s = some r ∧ r.getLast? = some s' ∧ Q s' ∧ r[0]? = some s ∧
    (∀ (k : Nat) (s1 s2 : St), r[k]? = some s1 → r[k + 1]? = some s2 → calm T ops (i + k) = true → Up lo s1.H s2.H) ∧
    (∀ (k : Nat) (o : Oper) (s1 : St), l[k]? = some o → r[k]? = some s1 → awanted ops s1.tm o = true → cls T o.op = .look → lkat T ops (i + k) = true → LooksU T lo s1.tm o s1.H) := by
 intro l
 induction l with
 | nil => intro i Q s h; exact ⟨0, [s], s, rfl, rfl, h, rfl, fun k s1 s2 h1 h2 => by simp at h2, fun k o s1 hk => by simp at hk⟩
 | cons o l ih =>
  intro i Q s h
  obtain ⟨k1, s1, h1, h2, h3, h4⟩ := AStepV.spec (show AStepV P T lo n ops i o (AOpsV P T lo n ops (i + 1) l Q) s from h)
  obtain ⟨k2, r, s', g1, g2, g3, g0, g4, g5⟩ := ih _ _ _ h3
  refine ⟨max k1 k2, s :: r, s', ?_, by rw [List.getLast?_cons, g2]; rfl, g3, rfl, fun k sa sb ha hb hcm => ?_, fun k o' s2 hk hs => ?_⟩
  ·simp only [evTrace, step1_le (evCall_le (Nat.le_max_left k1 k2)) h1, evTrace_le (evCall_le (Nat.le_max_right k1 k2)) _ _ _ g1]
  ·cases k with
   | zero =>
    have e1 : s = sa := by simpa using ha
    have e2 : r[0]? = some sb := by simpa using hb
    rw [g0] at e2
    cases e2
    subst e1
    exact h2 hcm
   | succ k => exact g4 k sa sb (by simpa using ha) (by simpa using hb) (by rw [show i + 1 + k = i + (k + 1) by omega]; exact hcm)
  ·cases k with
   | zero =>
    simp at hk hs
    subst hk hs
    exact h4
   | succ k => intro hw hl hlk; exact g5 k o' s2 (by simpa using hk) (by simpa using hs) hw hl (by rw [show i + 1 + k = i + (k + 1) by omega]; exact hlk)
theorem up_span {r : List St} (i0 : Nat) (hr : ∀ (k : Nat) (s1 s2 : St), r[k]? = some s1 → r[k + 1]? = some s2 → calm T ops k = true → Up lo s1.H s2.H) : ∀ (d a : Nat) (s1 s2 : St), r[a]? = some s1 → r[a + d]? = some s2 → (∀ k, a ≤ k → k < a + d → calm T ops k = true) → Up lo s1.H s2.H := by
 intro d
 induction d with
 | zero => intro a s1 s2 h1 h2 _; rw [Nat.add_zero, h1] at h2; cases h2; exact Up.refl _
 | succ d ih =>
  intro a s1 s2 h1 h2 hc
  have hlt : a + d + 1 < r.length := (List.getElem?_eq_some_iff.1 (show r[a + d + 1]? = some s2 from h2)).1
  have h3 : r[a + d]? = some (r[a + d]'(by omega)) := List.getElem?_eq_getElem _
  exact (ih a s1 _ h1 h3 fun k h4 h5 => hc k h4 (by omega)).trans (hr (a + d) _ s2 h3 h2 (hc (a + d) (by omega) (by omega)))
theorem aw_drawV0 {id : Nat} {l : List Oper} (lo : Nat) (h : AOpsV P T lo n l.toArray 0 l (Q .normal) s) : Aw P T n (.region id l.toArray true) Q s := by
 obtain ⟨k, r, s', h1, h2, h3, h0, h4, h5⟩ := AOpsV.spec _ _ _ _ h
 simp only [Nat.zero_add] at h4 h5
 unfold Aw
 refine ⟨k + 1, .normal, s', ?_, h3⟩
 rw [evCode_region]
 obtain ⟨g1, g2, g3, s2, g4, g5⟩ := evTrace_spec _ _ _ h1
 rw [h2] at g4; cases g4
 have hst : (loose T l.toArray).all (steady T l.toArray r) = true := by
  rw [List.all_eq_true]
  intro p hp
  have hcalm : ∀ k, Nat.min p.1 p.2 ≤ k → k ≤ Nat.max p.1 p.2 → calm T l.toArray k = true := fun k ha hb => List.any_eq_true.2 ⟨p, hp, by rw [Bool.and_eq_true, ble_dec, ble_dec]; simp [ha, hb]⟩
  have hlk : lkat T l.toArray p.1 = true := List.any_eq_true.2 ⟨p, hp, Nat.beq_refl _⟩
  unfold steady
  obtain ⟨i, j⟩ := p
  have hij : i < l.length ∧ j < l.length ∧ cls T ((l[i]?).getD default).op = .look := by
   unfold loose at hp
   rw [List.mem_flatMap] at hp
   obtain ⟨i', hi', hp⟩ := hp
   obtain ⟨j', hj', hp⟩ := List.mem_filterMap.1 hp
   have : i = i' ∧ j = j' := by
    split at hp
    ·revert hp; generalize i'.blt j' = b1; intro hp
     cases b1 <;> simp only [cond_false, cond_true] at hp
     ·revert hp; generalize Nat.testBit _ _ = b2; intro hp; cases b2 <;> simp only [cond_false, cond_true] at hp <;> cases hp; exact ⟨rfl, rfl⟩
     ·revert hp; generalize Nat.testBit _ _ = b2; intro hp; cases b2 <;> simp only [cond_false, cond_true] at hp <;> cases hp; exact ⟨rfl, rfl⟩
    ·cases hp
   obtain ⟨rfl, rfl⟩ := this
   simp at hi' hj'
   refine ⟨hi', hj', ?_⟩
   split at hp
   ·rename_i c1 c2
    rw [show l.toArray[i]? = some l[i] from by simp [hi']] at c1
    simp only [Option.map_some, Option.some.injEq] at c1
    rw [List.getElem?_eq_getElem hi']
    exact c1
   ·cases hp
  simp only at hcalm hlk
  have e1 : r[i]? = some (r[i]'(by omega)) := List.getElem?_eq_getElem _
  have e2 : l.toArray[i]? = some (l[i]'hij.1) := by simp [hij.1]
  have e3 : r[j]? = some (r[j]'(by omega)) := List.getElem?_eq_getElem _
  have e4 : r[j + 1]? = some (r[j + 1]'(by omega)) := List.getElem?_eq_getElem _
  have hmin : Nat.min i j ≤ i ∧ Nat.min i j ≤ j := ⟨Nat.min_le_left _ _, Nat.min_le_right _ _⟩
  have hmax : i ≤ Nat.max i j ∧ j ≤ Nat.max i j := ⟨Nat.le_max_left _ _, Nat.le_max_right _ _⟩
  simp only [e1, e2, e3, e4]
  cases hw : awanted l.toArray (r[i]'(by omega)).tm (l[i]'hij.1)
  ·rfl
  ·simp only [cond_true]
   have hlook : cls T (l[i]'hij.1).op = .look := by
    have := hij.2.2
    rw [List.getElem?_eq_getElem hij.1] at this
    exact this
   obtain ⟨x, u, v, k1, k2, k3, k4, k5⟩ := h5 i (l[i]'hij.1) _ (by simp [hij.1]) e1 hw hlook hlk
   have m1 : ∀ b, b < lo → (r[j]'(by omega)).H.get b = (r[i]'(by omega)).H.get b := fun b hb => by
    rcases Nat.le_total i j with hle | hle
    ·obtain ⟨d, hd⟩ : ∃ d, j = i + d := ⟨j - i, by omega⟩
     exact (up_span 0 h4 d i _ _ e1 (by rw [← hd]; exact e3) fun k ha hb => hcalm k (by omega) (by omega)).get b hb
    ·obtain ⟨d, hd⟩ : ∃ d, i = j + d := ⟨i - j, by omega⟩
     exact ((up_span 0 h4 d j _ _ e3 (by rw [← hd]; exact e1) fun k ha hb => hcalm k (by omega) (by omega)).get b hb).symm
   have m2 : ∀ b, b < lo → (r[j + 1]'(by omega)).H.get b = (r[j]'(by omega)).H.get b := fun b hb => (h4 j _ _ e3 e4 (hcalm j (by omega) (by omega))).get b hb
   have same : ∀ H' : Heap, (∀ b, b < lo → H'.get b = (r[i]'(by omega)).H.get b) → alook T (l[i]'hij.1).op u H' = some v := by
    intro H' hu
    rcases alook_dep k3 with hi | ⟨b, hb, _, hc⟩
    ·exact hi H'
    ·rw [hc H' (r[i]'(by omega)).H (hu b (k5 b hb))]
     exact k3
   simp only [k1, k2, k3, same _ m1, same _ (fun b hb => (m2 b hb).trans (m1 b hb)), k4, Bool.and_self]
 simp only [evRegion, cond_true]
 cases hl : loose T l.toArray with
 | nil => simp only [g5]
 | cons p ps =>
  rw [hl] at hst
  simp only [h1, hst, cond_true, h2]
theorem cf_drawV {c : Cf} (lo : Nat) (h : atD c = true) (hk : AOpsV P T lo c.n (opsD c) 0 (opsD c).toList (fun s => Den P T ⟨c.n, .done .normal, c.K, s⟩ Q) c.s) : Den P T c Q := by
 obtain ⟨i, e⟩ := atD_spec h
 rw [e]
 unfold Den
 generalize opsD c = ops at hk
 obtain ⟨l⟩ := ops
 refine aw_drawV0 lo ?_
 unfold Den at hk
 exact hk
def okV (n : Nat) (ops : Array Oper) (s : St) (l : List Oper) (t : Nat) : Bool := !l.isEmpty && (awanted ops s.tm (hdO l) && (match (hdO l).dst with | some d => d.beq t && d.blt n | none => false))
theorem okV_spec {l : List Oper} {t : Nat} (h : okV n ops s l t = true) : l = hdO l :: l.tail ∧ awanted ops s.tm (hdO l) = true ∧ ∀ v, dput n s.tm (hdO l).dst v = some (s.tm.put t (some v)) := by
 unfold okV at h
 simp only [Bool.and_eq_true, Bool.not_eq_true'] at h
 obtain ⟨h1, h2, h3⟩ := h
 refine ⟨hdO_tail h1, h2, fun v => ?_⟩
 split at h3
 ·rename_i d e
  simp only [Bool.and_eq_true] at h3
  rw [e, Nat.eq_of_beq_eq_true h3.1]
  unfold dput
  have := h3.2
  rw [Nat.eq_of_beq_eq_true h3.1] at this
  simp only [this, cond_true]
 ·cases h3
theorem aopsV_val {l : List Oper} {k : Nat} (t : Nat) (v : Value) (H0 H' : Heap) (ho : okV n ops s l t = true) (ha : aop P T s.tm (hdO l) s.H = some (.val v, H')) (hH : s.H = H0) (hq : calm T ops k = true → Up lo H0 H') (hl : (cls T (hdO l).op == .look && lkat T ops k) = false)
    (hk : AOpsV P T lo n ops (k + 1) l.tail K ⟨s.tm.put t (some v), H'⟩) : AOpsV P T lo n ops k l K s := by
 obtain ⟨h1, h2, h3⟩ := okV_spec ho
 subst hH
 rw [h1]
 show AStepV P T lo n ops k (hdO l) _ s
 unfold AStepV
 rw [h2, ha]
 refine ⟨hq, fun h4 h5 => ?_, aput_k (h3 v) hk⟩
 rw [h4, h5] at hl
 cases hl
theorem aopsV_get {l : List Oper} {k : Nat} (t : Nat) (v u : Value) (x : Operand) (H0 : Heap) (ho : okV n ops s l t = true) (hx : lookArg (hdO l).op = some x) (hu : aeval s.tm x = some u) (hH : s.H = H0) (hv : alook T (hdO l).op u H0 = some v) (hvv : veq v v = true) (hlow : LowB lo u)
    (ha : aop P T s.tm (hdO l) s.H = some (.val v, s.H)) (hk : AOpsV P T lo n ops (k + 1) l.tail K ⟨s.tm.put t (some v), s.H⟩) : AOpsV P T lo n ops k l K s := by
 obtain ⟨h1, h2, h3⟩ := okV_spec ho
 rw [h1]
 show AStepV P T lo n ops k (hdO l) _ s
 unfold AStepV
 rw [h2, ha]
 exact ⟨fun _ => Up.refl _, fun _ _ => ⟨x, u, v, hx, hu, by rw [hH]; exact hv, hvv, hlow⟩, aput_k (h3 v) hk⟩
theorem aopsV_ask {l : List Oper} {k : Nat} (t : Nat) (v : Value) (f : FuncId) (args : Array Value) (ho : okV n ops s l t = true) (ha : aop P T s.tm (hdO l) s.H = some (.enter f args, s.H)) (hv : T.orc f args.toList = some v) (hk : AOpsV P T lo n ops (k + 1) l.tail K ⟨s.tm.put t (some v), s.H⟩) : AOpsV P T lo n ops k l K s := by
 obtain ⟨h1, h2, h3⟩ := okV_spec ho
 rw [h1]
 show AStepV P T lo n ops k (hdO l) _ s
 unfold AStepV
 rw [h2, ha]
 exact ⟨fun _ => Up.refl _, acall_orc hv ⟨fun _ => Up.refl _, aput_k (h3 v) hk⟩⟩
theorem aopsV_call {l : List Oper} {k : Nat} (t : Nat) (f : FuncId) (args : Array Value) (H0 : Heap) {R : Value → Heap → Prop} (ho : okV n ops s l t = true) (ha : aop P T s.tm (hdO l) s.H = some (.enter f args, s.H)) (hH : s.H = H0) (hc : ACall P T f args H0 R) (hq : calm T ops k = true → ∀ v H', R v H' → Up lo H0 H')
    (hk : ∀ v H', R v H' → AOpsV P T lo n ops (k + 1) l.tail K ⟨s.tm.put t (some v), H'⟩) : AOpsV P T lo n ops k l K s := by
 obtain ⟨h1, h2, h3⟩ := okV_spec ho
 rw [h1]
 show AStepV P T lo n ops k (hdO l) _ s
 unfold AStepV
 rw [h2, ha]
 subst hH
 exact ⟨fun _ => Up.refl _, hc.mono fun v H' h => ⟨fun hcm => hq hcm v H' h, aput_k (h3 v) (hk v H' h)⟩⟩
theorem aopsV_end {l : List Oper} {k : Nat} (he : l.isEmpty = true) (hk : K s) : AOpsV P T lo n ops k l K s := by
 cases l with
 | nil => exact hk
 | cons o l => cases he
theorem aopsV_cons {o : Oper} {l : List Oper} {k : Nat} (h : AStepV P T lo n ops k o (AOpsV P T lo n ops (k + 1) l K) s) : AOpsV P T lo n ops k (o :: l) K s := h
theorem calm_no {T : Tab} {ops : Array Oper} {k : Nat} {p : Prop} (h : calm T ops k = false) : calm T ops k = true → p := fun h' => by rw [h] at h'; cases h'
end
attribute [irreducible] AOpsV
end Go.Ev
end
section
namespace Go.Ev
open Go Go.ChangeShapes Go.WideShapes Go.ChangeAt Go.RowKit
set_option linter.unusedVariables false
set_option linter.unusedSimpArgs false
set_option maxRecDepth 100000
theorem cells_of {w : World} {b off : Nat} {x : Value} (h : w.cell? ⟨b, off, none⟩ = some x) : ∃ cs e fz, w.heap[b]? = some (.cells cs e fz) ∧ cs[off]? = some x := by
 unfold World.cell? at h
 split at h
 ·rename_i cs e fz hc
  exact ⟨cs, e, fz, hc, by simpa using h⟩
 ·cases h
structure RowW (W : World) (A : Option Addr) (cells : List Value) : Prop where
 at_ : (A = none ∧ cells = []) ∨ ∃ b off cs e fz, A = some ⟨b, off, none⟩ ∧ W.heap[b]? = some (.cells cs e fz) ∧ (cells = [] ∨ off + cells.length ≤ cs.size) ∧ ∀ i x, cells[i]? = some x → cs[off + i]? = some x
theorem RowW.of_cells {W : World} {A : Addr} {cells : List Value} (hA : A.spot = none) (hb : ∃ cs e fz, W.heap[A.block]? = some (.cells cs e fz)) (hc : ∀ i x, cells[i]? = some x → W.cell? (A.add i) = some x) : RowW W (some A) cells := by
 obtain ⟨b, off, sp⟩ := A
 have hA : sp = none := hA
 subst hA
 obtain ⟨cs, e, fz, hb⟩ := hb
 have hall : ∀ i x, cells[i]? = some x → cs[off + i]? = some x := fun i x hx => by
  have h := hc i x hx
  rw [Addr.add_lit] at h
  obtain ⟨cs', e', fz', h3, h4⟩ := cells_of h
  rw [hb] at h3
  injection h3 with h3
  injection h3 with h5 h6 h7
  subst h5
  exact h4
 refine ⟨.inr ⟨b, off, cs, e, fz, rfl, hb, ?_, hall⟩⟩
 by_cases h0 : cells.length = 0
 ·exact .inl (List.length_eq_zero_iff.1 h0)
 ·have := (Array.getElem?_eq_some_iff.1 (hall (cells.length - 1) _ (List.getElem?_eq_getElem (by omega)))).1
  exact .inr (by omega)
theorem has_block {P : Program} {W : World} {r : Reach} {b0 : Nat} {t e : TypeId} {a : Addr} {len cap : Nat} (ht : P.underlying t = some (.slice e)) (hv : Value.okWide P W r b0 t (.slice (some a) len cap)) : a.spot = none ∧ ∃ cs e fz, W.heap[a.block]? = some (.cells cs e fz) := by
 have hs : W.has P r b0 a e cap := by
  have h2 := hv
  simp only [Value.okWide, ht, Cell.okWide, Cell.ok] at h2
  exact h2.2.2
 obtain ⟨_, hspot, row, cells, hsh, _⟩ := hs
 refine ⟨hspot, ?_⟩
 unfold World.shape? at hsh
 split at hsh
 ·rename_i c e f hc; exact ⟨c, e, f, hc⟩
 ·cases hsh
section
variable {H : Type} {enc : TypeId × Value → H} {P : Program} {w : World} {base : Nat} {spare : Nat → Bool} {held : Bool}
end
section
variable {H : Type} {enc : TypeId × Value → H} {P : Program}
theorem post_of_below {f : Func} {s : ChangeSpec} {apart fresh handsOn again : Bool} {W W' : World} {args : Array Value} {v : Value} {ds gs : List (DataW H)} {before pa pv : List MemPlace}
    (hW : DataW.Whole enc P f.params.toList s.vars apart W args.toList ds gs before)
    (hres : ∀ (b : Nat) (sp : Nat → Bool) (hd : Bool), DataW.TrodAll enc P W' b sp hd f.resultTypes.toList (v.resultList f.resultTypes.size) (s.fn H (ds ++ gs)).results [])
    (hargs : ∀ sp : Nat → Bool, (∀ p ∈ before, sp p.block = true) → DataW.TrodAll enc P W' 0 sp true f.params.toList args.toList (s.fn H (ds ++ gs)).args pa)
    (hvars : ∀ sp : Nat → Bool, (∀ p ∈ before, sp p.block = true) → DataW.TrodVars enc P W' sp s.vars (s.fn H (ds ++ gs)).vars pv)
    (hps : before = pa ++ pv) (hb : Below W.heap.size W W')
    (hok : ∀ (j : Nat) (t : TypeId) (r : Value), f.resultTypes[j]? = some t → (v.resultList f.resultTypes.size)[j]? = some r → Value.okWide P W' .any 0 t r) :
    s.post enc P f apart fresh handsOn again W args v W' := by
 have hlt : ∀ p ∈ before, p.block < W.heap.size := fun p hp => hW.lt p hp
 have hold : ∀ p ∈ before, (fun b => decide (b < W.heap.size)) p.block = true := fun p hp => by simpa using hlt p hp
 refine ⟨ds, gs, before, [], pa, pv, hW, hres _ _ _, hargs _ hold, hvars _ hold, World.keptBut_mono (fun p hp => ⟨hp, ?_⟩) (hb.frame (· ∈ before)), fun _ => ?_⟩
 ·rw [hps, List.mem_append] at hp
  exact Or.inr hp
 ·obtain ⟨_, _, _, _, _, hz, hn⟩ := hW
  refine ⟨hok, _, _, ([] ++ pa) ++ pv, ⟨[] ++ pa, pv, trodAll_append (hargs _ (fun _ _ => rfl)) (hres _ _ _), hvars _ (fun _ _ => rfl), rfl, ?_, ?_⟩, ?_⟩
  ·intro b off hp
   have hin : MemPlace.cell b off ∈ before := by rw [hps]; simpa using hp
   rw [hb.frozen (hlt _ hin)]
   exact hz b off hin
  ·intro ha
   have := hn ha
   rw [hps] at this
   simpa using this
  ·intro p hp _
   rw [hps]
   simpa using hp
end
structure RoRep [Bs] (P : Program) (m : Map) (H : Heap) (W : World) : Prop where
 wf : HWf H
 rep : Rep P m H W
 ro : ∀ b, ¬ H.wr b
theorem RoRep.start [Bs] {P : Program} {W : World} (hw : OnBs W) : RoRep P (fun _ => none) ⟨.lf, 0⟩ W :=
 ⟨fun b hb => by simp [Heap.get] at hb; cases b <;> simp [Tr.get] at hb, ⟨⟨fun b L hb => (by cases hb), fun b L o hb => (by cases hb), fun b1 b2 L1 L2 hb => (by cases hb)⟩, ⟨hw, fun b L hb => (by cases hb)⟩⟩, fun b hb => by obtain ⟨o, ho, _⟩ := hb; simp [Heap.get] at ho; cases b <;> simp [Tr.get] at ho⟩
theorem RoRep.push [Bs] {P : Program} {m : Map} {H : Heap} {W : World} (h : RoRep P m H W) {o : Ob} {L : Ev.Loc} (ho : o.ro = true) (hk : BlkOk P m o L W) :
    RoRep P (fun x => if x = H.n then some L else m x) (H.push o) W ∧ m.le (fun x => if x = H.n then some L else m x) := by
 have hle : m.le (fun x => if x = H.n then some L else m x) := fun b L' hb => by
  have := h.rep.dom b L' hb
  show (if b = H.n then some L else m b) = some L'
  rw [if_neg (by omega)]; exact hb
 have hro : ∀ b, ¬ (H.push o).wr b := by
  rintro b ⟨o', h1, h2⟩
  rw [Heap.get_push] at h1
  split at h1
  ·injection h1 with h1; subst h1; rw [ho] at h2; cases h2
  ·exact h.ro b ⟨o', h1, h2⟩
 have hn : (H.push o).n = H.n + 1 := Heap.n_push ..
 refine ⟨⟨fun b hb => ?_, ⟨⟨fun b L' hb => ?_, fun b L' o' hb h1 => ?_, fun b1 b2 L1 L2 k1 k2 k3 k4 k5 => (hro b1 k3).elim⟩, ⟨h.rep.bas.toOnBs, fun b L' hb hw => (hro b hw).elim⟩⟩, hro⟩, hle⟩
 ·rw [Heap.get_push] at hb
  rw [hn]
  split at hb
  ·omega
  ·have := h.wf b hb; omega
 ·rw [hn]
  by_cases e : b = H.n
  ·omega
  ·simp only [if_neg e] at hb
   have := h.rep.dom b L' hb; omega
 ·rw [Heap.get_push] at h1
  by_cases e : b = H.n
  ·subst e
   simp only [if_true] at hb h1
   injection hb with hb; injection h1 with h1
   subst hb h1
   exact hk.mono hle rfl
  ·simp only [if_neg e] at hb h1
   exact (h.rep.blk b L' o' hb h1).mono hle rfl
theorem RoRep.row [Bs] {P : Program} {T : Tab} (hP : ProgOk P T) {m : Map} {H : Heap} {W : World} (h : RoRep P m H W) {e : TypeId} {es : Nat} (hs : T.size e = some es) {A : Option Addr} {cells : List Value} {len cap : Nat} (hA : RowW W A cells) (hp : ∀ x ∈ cells, plain x = true) (hl : A = none → len = 0) (hcap : cap ≤ maxLen) :
    ∃ (a : Option Addr) (m' : Map) (H' : Heap), RoRep P m' H' W ∧ m.le m' ∧ H.n ≤ H'.n ∧ (∀ b, b < H.n → H'.get b = H.get b) ∧ VR m' (.slice a len cap) (.slice A len cap) ∧ ((a = none ∧ len = 0 ∧ cells = []) ∨ ∃ B off, a = some ⟨B, off, none⟩ ∧ H'.get B = some ⟨cells, e, true⟩ ∧ B < H'.n ∧ (cells = [] ∨ off = 0)) := by
 have hcu : cap < Go.Ev.unk := by unfold maxLen at hcap; unfold Go.Ev.unk; omega
 obtain ⟨inf, hinf, hsz⟩ := hP.tab.size e es hs
 rcases hA.at_ with ⟨rfl, rfl⟩ | ⟨b, off, cs, e', fz, rfl, h1, h2, h3⟩
 ·exact ⟨Option.none, m, H, h, fun _ _ h => h, Nat.le_refl _, fun _ _ => rfl, .same rfl, .inl ⟨rfl, hl rfl, rfl⟩⟩
 ·have hn : ∀ o, (H.push o).n = H.n + 1 := fun o => Heap.n_push ..
  rcases h2 with rfl | h2
  ·obtain ⟨k1, k2⟩ := h.push (o := ⟨[], e, true⟩) (L := Ev.Loc.mk b 0 0 es) rfl ⟨cs, e', fz, h1, by simp, fun i x hx => by simp at hx, fun h => by simp at h, inf, hinf, hsz⟩
   exact ⟨some ⟨H.n, off, none⟩, _, _, k1, k2, by rw [hn]; omega, fun b hb => by rw [Heap.get_push, if_neg (by omega)], .slice (L := Ev.Loc.mk b 0 0 es) (by simp) (.inl ⟨hcu, rfl, (Nat.zero_add _).symm⟩),
    .inr ⟨H.n, off, rfl, by rw [Heap.get_push, if_pos rfl], by rw [hn]; omega, .inl rfl⟩⟩
  ·obtain ⟨k1, k2⟩ := h.push (o := ⟨cells, e, true⟩) (L := Ev.Loc.mk b off 0 es) rfl ⟨cs, e', fz, h1, by simpa using h2, fun i x hx => ⟨x, h3 i x hx, .same (hp x (List.mem_of_getElem? hx))⟩, fun h => by simp at h, inf, hinf, hsz⟩
   exact ⟨some ⟨H.n, 0, none⟩, _, _, k1, k2, by rw [hn]; omega, fun b hb => by rw [Heap.get_push, if_neg (by omega)], .slice (L := Ev.Loc.mk b off 0 es) (by simp) (.inl ⟨hcu, rfl, rfl⟩),
    .inr ⟨H.n, 0, rfl, by rw [Heap.get_push, if_pos rfl], by rw [hn]; omega, .inr rfl⟩⟩
theorem calls_ro [Bs] {P : Program} {T : Tab} (hP : ProgOk P T) {f : FuncId} {args args' : Array Value} {v : Value} {m : Map} {H : Heap} {W : World} (h : ACall P T f args H fun r _ => r = v) (hv : closed v = true) (hr : RoRep P m H W) (ha : VRs m args.toList args'.toList) : Calls P f args' W fun e w' => e = .returned v ∧ Below W.heap.size W w' := by
 refine (h.calls hP hr.wf hr.rep ha).mono fun e w' hp => ?_
 obtain ⟨v1, H', rfl, v', m', rfl, hv', _, hf⟩ := hp
 rw [hv'.closed_eq hv]
 exact ⟨rfl, hf.os, hf.tape, hf.output, hf.size, fun c hc => hf.keep c hc (by rintro ⟨b, L, _, hb, _⟩; exact hr.ro b hb)⟩
theorem onbs_any (W : World) : @OnBs ⟨W, W.heap.size⟩ W := @OnBs.mk ⟨W, W.heap.size⟩ W (Nat.le_refl _) (fun _ _ => rfl)
end Go.Ev
end
