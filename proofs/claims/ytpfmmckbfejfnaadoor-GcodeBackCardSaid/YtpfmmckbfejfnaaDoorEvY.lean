/- The fast evaluator: operations. -/
import Derived.Test.YtpfmmckbfejfnaaDoorEvX
namespace Go.Ev
open Go
set_option linter.unusedVariables false
set_option linter.unusedSimpArgs false
noncomputable section
variable (P : Program) (T : Tab)
def kTmp (tm : Tr Value) (t : Nat) (K : Value → Bool) : Bool := getK tm t fun v => Option.rec (K undef) K v
/-- Is a constant one that is data? -/
def evK (tm : Tr Value) (x : Operand) (K : Value → Bool) : Bool :=
  Operand.rec (fun t => getK tm t fun v => Option.rec (K undef) K v) (fun v => Bool.rec false (K v) (closed v)) (fun _ => false) (fun f => K (.func (.func f) #[] #[])) x
theorem evK_eq (tm : Tr Value) (x : Operand) (K : Value → Bool) : evK tm x K = bnd (aeval tm x) K := by
  cases x with
  | tmp t =>
    show getK tm t (fun v => Option.rec (K undef) K v) = bnd (some ((tm.get t).getD undef)) K
    rw [getK_eq, bnd_some]
    cases tm.get t <;> rfl
  | const v =>
    show (Bool.rec (motive := fun _ => Bool) false (K v) (closed v) : Bool) = bnd (bif closed v then some v else none) K
    cases closed v <;> rfl
  | func f => rfl
  | global g => rfl
def evsK (tm : Tr Value) (l : List Operand) : (List Value → Bool) → Bool := List.rec (fun K => K []) (fun x _ ih K => evK tm x fun v => ih fun l => K (v :: l)) l
theorem evsK_eq (tm : Tr Value) (l : List Operand) : ∀ K, evsK tm l K = bnd (aevals tm l) K := by
  induction l with
  | nil => intro K; rfl
  | cons x l ih =>
    intro K
    show evK tm x (fun v => evsK tm l fun l => K (v :: l)) = _
    rw [evK_eq]
    simp only [aevals]
    cases aeval tm x with
    | none => rfl
    | some v =>
      show evsK tm l (fun l => K (v :: l)) = _
      rw [ih]
      cases aevals tm l <;> rfl
def evpK (tm : Tr Value) (l : List (Nat × Operand)) : (List (Nat × Value) → Bool) → Bool := List.rec (fun K => K []) (fun p _ ih K => evK tm p.2 fun v => ih fun l => K ((p.1, v) :: l)) l
theorem evpK_eq (tm : Tr Value) (l : List (Nat × Operand)) : ∀ K, evpK tm l K = bnd (aevalp tm l) K := by
  induction l with
  | nil => intro K; rfl
  | cons x l ih =>
    intro K
    obtain ⟨i, x⟩ := x
    show evK tm x (fun v => evpK tm l fun l => K ((i, v) :: l)) = _
    rw [evK_eq]
    simp only [aevalp]
    cases aeval tm x with
    | none => rfl
    | some v =>
      show evpK tm l (fun l => K ((i, v) :: l)) = _
      rw [ih]
      cases aevalp tm l <;> rfl
def evoK (tm : Tr Value) (x : Option Operand) (K : Option Value → Bool) : Bool := Option.rec (K none) (fun x => evK tm x fun v => K (some v)) x
theorem evoK_eq (tm : Tr Value) (x : Option Operand) (K : Option Value → Bool) : evoK tm x K = bnd (aevalo tm x) K := by
  cases x with
  | none => rfl
  | some x =>
    show evK tm x (fun v => K (some v)) = _
    rw [evK_eq]
    simp only [aevalo]
    cases aeval tm x <;> rfl
abbrev RK := Res → Heap → Bool
def rK (K : RK) : Res × Heap → Bool := fun p => K p.1 p.2
def hV (v : Option Value) (H : Heap) (K : RK) : Bool := bnd v fun v => fV v fun v => K (.val v) H
theorem hV_eq (v : Option Value) (H : Heap) (K : RK) : hV v H K = bnd (val v H) (rK K) := by
  unfold hV
  cases v with
  | none => rfl
  | some v => rw [bnd_some, fV_eq]; rfl
/-- A value and what is done to memory. -/
def hV2 (r : Option (Value × HOp)) (H : Heap) (K : RK) : Bool := bnd r fun p => fV p.1 fun v => hopK H p.2 fun H => K (.val v) H
def on2 (H : Heap) (r : Option (Value × HOp)) : Option (Value × Heap) := match r with | some (v, h) => some (v, h.on H) | none => none
theorem hV2_eq (r : Option (Value × HOp)) (H : Heap) (K : RK) : hV2 r H K = bnd (val2 (on2 H r)) (rK K) := by
  unfold hV2
  cases r with
  | none => rfl
  | some p => rw [bnd_some, fV_eq, hopK_eq]; rfl
def hS (r : Option HOp) (H : Heap) (K : RK) : Bool := bnd r fun h => hopK H h fun H => K .skip H
def on1 (H : Heap) (r : Option HOp) : Option Heap := match r with | some h => some (h.on H) | none => none
theorem hS_eq (r : Option HOp) (H : Heap) (K : RK) : hS r H K = bnd (skp (on1 H r)) (rK K) := by
  unfold hS
  cases r with
  | none => rfl
  | some p => rw [bnd_some, hopK_eq]; rfl
/-! Memory -/
def hget (H : Heap) (b : Nat) : Option Ob := fget H.t b
theorem hget_eq (H : Heap) (b : Nat) : hget H b = H.get b := fget_eq _ _
def loadCells (n : Nat) (l : List Value) : Option Value := bif l.length.beq n then some (.agg l.toArray) else none
def loadOb (off : Nat) (o : Ob) (d : TypeDesc) (n : Nat) : Option Value := bif isRow d then loadCells n ((o.cells.drop off).take n) else o.cells[off]?
def loadAt (t : TypeId) (H : Heap) (b off : Nat) : Option Value := match hget H b, T.under t, T.size t with
  | some o, some d, some n => loadOb off o d n
  | _, _, _ => none
def fload (t : TypeId) (v : Value) (H : Heap) : Option Value := match v with
  | .pointer (some ⟨b, off, none⟩) => loadAt T t H b off
  | _ => none
theorem fload_eq (t : TypeId) (v : Value) (H : Heap) : fload T t v H = aload T t v H := by
  cases v with
  | pointer a => cases a with
    | none => rfl
    | some a =>
      obtain ⟨b, off, g⟩ := a
      cases g with
      | some g => rfl
      | none =>
        show loadAt T t H b off = _
        unfold loadAt aload
        rw [hget_eq]
        try simp only []
        cases H.get b <;> cases T.under t <;> cases T.size t <;> rfl
  | _ => rfl
def putOb (b off : Nat) (cs : List Value) (o : Ob) : Option HOp := bif !o.ro && cs.all one && (off + cs.length).ble o.cells.length then some (.put b ⟨splice o.cells off cs, o.elem, false⟩) else none
def fputC (b off : Nat) (cs : List Value) (H : Heap) : Option HOp := match hget H b with
  | some o => putOb b off cs o
  | none => none
theorem fputC_eq (b off : Nat) (cs : List Value) (H : Heap) : on1 H (fputC b off cs H) = aput b off cs H := by
  unfold fputC aput
  rw [hget_eq]
  cases H.get b with
  | none => rfl
  | some o =>
    show on1 H (putOb b off cs o) = _
    unfold putOb
    try simp only []
    cases (!o.ro && cs.all one && (off + cs.length).ble o.cells.length) <;> rfl
def storeAt (t : TypeId) (b off : Nat) (x : Value) (H : Heap) : Option HOp := match T.size t with
  | some n => bif x.cells.size.beq n then fputC b off x.cells.toList H else none
  | none => none
def fstore (t : TypeId) (v x : Value) (H : Heap) : Option HOp := match v with
  | .pointer (some ⟨b, off, none⟩) => storeAt T t b off x H
  | _ => none
theorem fstore_eq (t : TypeId) (v x : Value) (H : Heap) : on1 H (fstore T t v x H) = astore T t v x H := by
  cases v with
  | pointer a => cases a with
    | none => rfl
    | some a =>
      obtain ⟨b, off, g⟩ := a
      cases g with
      | some g => rfl
      | none =>
        show on1 H (storeAt T t b off x H) = _
        unfold storeAt astore
        try simp only []
        cases T.size t with
        | none => rfl
        | some n =>
          try simp only []
          cases x.cells.size.beq n
          · rfl
          · exact fputC_eq _ _ _ _
  | _ => rfl
/-! Append, slices -/
def kOut (r : Bool) (v : Option (Value × HOp)) : Option (Value × HOp) := bif r then v else none
/-- Onto a row that may grow. -/
def appUnk (s0 by_ : Nat) (e : TypeId) (s : Value) (H : Heap) (b off len n : Nat) (new : List Value) (o : Ob) : Option (Value × HOp) :=
  bif o.elem.beq e then
    bif n.beq 0 then some (s, .keep) else
    bif (off + len * (s0 + 1)).ble o.cells.length && new.all one && ((len + n) * (by_ + 1)).ble 140737488355328 then some (.slice (some ⟨H.n, 0, none⟩) (len + n) (unk + (s0 + 1)), .kpush b ⟨(o.cells.drop off).take (len * (s0 + 1)) ++ new, e, false⟩) else none
  else none
def appFit (s0 : Nat) (H : Heap) (b off len cap n : Nat) (new : List Value) : Option (Value × HOp) := match fputC b (off + len * (s0 + 1)) new H with
  | some h => some (.slice (some ⟨b, off, none⟩) (len + n) cap, h)
  | none => none
def appNew (s0 by_ : Nat) (e : TypeId) (H : Heap) (b off len n : Nat) (new : List Value) (o : Ob) : Option (Value × HOp) :=
  bif n.beq 0 then none else
    bif (off + len * (s0 + 1)).ble o.cells.length && ((len + n) * (by_ + 1)).ble 140737488355328 then some (.slice (some ⟨H.n, 0, none⟩) (len + n) (unk + (s0 + 1)), .push ⟨(o.cells.drop off).take (len * (s0 + 1)) ++ new, e, false⟩) else none
def appOb (s0 by_ : Nat) (e : TypeId) (s : Value) (H : Heap) (b off len cap n : Nat) (new : List Value) (o : Ob) : Option (Value × HOp) :=
  bif o.ro then none else bif unk.ble cap then appUnk s0 by_ e s H b off len n new o else bif (len + n).ble cap then appFit s0 H b off len cap n new else appNew s0 by_ e H b off len n new o
def appOn (s0 by_ : Nat) (e : TypeId) (s x : Value) (H : Heap) (b off len cap n : Nat) (new : List Value) : Option (Value × HOp) :=
  bif blockOf x == some b then none else match hget H b with
    | some o => appOb s0 by_ e s H b off len cap n new o
    | none => none
def appNil (s0 by_ : Nat) (e : TypeId) (s : Value) (H : Heap) (len cap n : Nat) (new : List Value) : Option (Value × HOp) :=
  bif len.beq 0 && cap.beq 0 then
    bif n.beq 0 then some (s, .keep) else bif (n * (by_ + 1)).ble 140737488355328 then some (.slice (some ⟨H.n, 0, none⟩) n (unk + (s0 + 1)), .push ⟨new, e, false⟩) else none
  else none
def appBase (s0 by_ : Nat) (e : TypeId) (s x : Value) (H : Heap) (base : Option Addr) (len cap n : Nat) (new : List Value) : Option (Value × HOp) := match base with
  | none => appNil s0 by_ e s H len cap n new
  | some ⟨b, off, none⟩ => appOn s0 by_ e s x H b off len cap n new
  | _ => none
def srcOb (size off n : Nat) (o : Ob) : Option (Nat × List Value) := bif ((o.cells.drop off).take (n * size)).length.beq (n * size) then some (n, (o.cells.drop off).take (n * size)) else none
def srcB (size b off n : Nat) (H : Heap) : Option (Nat × List Value) := match hget H b with
  | some o => srcOb size off n o
  | none => none
def fsrc (size : Nat) (x : Value) (H : Heap) : Option (Nat × List Value) := match x with
  | .slice none n _ => bif n.beq 0 then some (0, []) else none
  | .slice (some ⟨b, off, none⟩) n _ => srcB size b off n H
  | .string s => bif size.beq 1 then some (s.size, s.data.toList.map fun b => .int .u8 b.toNat) else none
  | _ => none
theorem fsrc_eq (size : Nat) (x : Value) (H : Heap) : fsrc size x H = asrc size x H := by
  cases x with
  | slice a n c => cases a with
    | none => rfl
    | some a =>
      obtain ⟨b, off, g⟩ := a
      cases g with
      | some g => rfl
      | none =>
        show srcB size b off n H = _
        unfold srcB asrc
        rw [hget_eq]
        try simp only []
        cases H.get b <;> rfl
  | _ => rfl
def appE (s0 by_ : Nat) (e : TypeId) (s x : Value) (H : Heap) (base : Option Addr) (len cap : Nat) : Option (Value × HOp) := match fsrc (s0 + 1) x H with
  | some (n, new) => appBase s0 by_ e s x H base len cap n new
  | none => none
def appT (e : TypeId) (s x : Value) (H : Heap) (base : Option Addr) (len cap : Nat) : Option (Value × HOp) := match T.size e, T.bytes e, T.zero e with
  | some (s0 + 1), some (by_ + 1), some _ => appE s0 by_ e s x H base len cap
  | _, _, _ => none
def fappend (st xt : TypeId) (s x : Value) (H : Heap) : Option (Value × HOp) := match T.under st, T.under xt, s with
  | some (.slice e), some xd, .slice base len cap => bif isIntD xd then none else appT T e s x H base len cap
  | _, _, _ => none
theorem fappend_eq (st xt : TypeId) (s x : Value) (H : Heap) : on2 H (fappend T st xt s x H) = aappend T st xt s x H := by
  unfold fappend aappend
  split
  · rename_i e xd base len cap h1 h2
    simp only [h1, h2]
    cases isIntD xd
    case true => rfl
    simp only [cond_false]
    unfold appT
    split
    · rename_i s0 by_ z h3 h4 h5
      simp only [h3, h4, h5]
      unfold appE
      rw [fsrc_eq]
      split
      · rename_i n new h6
        simp only [h6]
        unfold appBase
        split
        · try simp only []
          unfold appNil
          cases (len.beq 0 && cap.beq 0) <;> cases n.beq 0 <;> cases (n * (by_ + 1)).ble 140737488355328 <;> rfl
        · rename_i b off
          try simp only []
          unfold appOn
          cases hq : (blockOf x == some b)
          case true => rfl
          simp only [cond_false]
          rw [hget_eq]
          cases H.get b with
          | none => rfl
          | some o =>
            try simp only []
            unfold appOb
            cases o.ro
            case true => rfl
            simp only [cond_false]
            cases unk.ble cap
            case true =>
              simp only [cond_true]
              unfold appUnk
              cases o.elem.beq e <;> cases n.beq 0 <;> cases ((off + len * (s0 + 1)).ble o.cells.length && new.all one && ((len + n) * (by_ + 1)).ble 140737488355328) <;> rfl
            case false =>
              simp only [cond_false]
              cases (len + n).ble cap
              case true =>
                simp only [cond_true]
                unfold appFit
                have := fputC_eq b (off + len * (s0 + 1)) new H
                rw [← this]
                cases fputC b (off + len * (s0 + 1)) new H <;> rfl
              case false =>
                simp only [cond_false]
                unfold appNew
                cases n.beq 0 <;> cases ((off + len * (s0 + 1)).ble o.cells.length && ((len + n) * (by_ + 1)).ble 140737488355328) <;> rfl
        · rename_i h7 h8
          split
          · exact absurd rfl h7
          · exact absurd rfl (h8 _ _)
          · rfl
      · rename_i h6
        simp only [h6]; rfl
    · rename_i h7
      split
      · rename_i s0 by_ z h3 h4 h5; exact absurd h5 (h7 s0 by_ z h3 h4)
      · rfl
  · rename_i h7
    split
    · rename_i e xd base len cap h1 h2; exact absurd rfl (h7 e xd base len cap h1 h2)
    · rfl
def bslE (e : TypeId) (len s : Nat) (z : Value) (H : Heap) (parts : List (Nat × Value)) : Option (Value × HOp) :=
  bif (len * (s + 1)).ble 16777216 && closed z && z.cells.size.beq (s + 1) then
    match Instr.fill (fun i => some (i * (s + 1), s + 1)) (zerosOf z.cells.toList len).toArray parts with
      | some cs => some (.slice (some ⟨H.n, 0, none⟩) len len, .push ⟨cs.toList, e, false⟩)
      | none => none
  else none
def bslT (e : TypeId) (len : Nat) (parts : List (Nat × Value)) (H : Heap) : Option (Value × HOp) := match T.size e, T.zero e with
  | some (s + 1), some z => bslE e len s z H parts
  | _, _ => none
def fbuildSlice (t : TypeId) (len : Nat) (parts : List (Nat × Value)) (H : Heap) : Option (Value × HOp) := match T.under t with
  | some (.slice e) => bslT T e len parts H
  | _ => none
theorem fbuildSlice_eq (t : TypeId) (len : Nat) (parts : List (Nat × Value)) (H : Heap) : on2 H (fbuildSlice T t len parts H) = abuildSlice T t len parts H := by
  unfold fbuildSlice abuildSlice
  split
  · rename_i e h1
    simp only [h1]
    unfold bslT
    split
    · rename_i s z h2 h3
      simp only [h2, h3]
      unfold bslE
      cases ((len * (s + 1)).ble 16777216 && closed z && z.cells.size.beq (s + 1))
      · rfl
      · simp only [cond_true]
        cases Instr.fill (fun i => some (i * (s + 1), s + 1)) (zerosOf z.cells.toList len).toArray parts <;> rfl
    · rename_i h7
      split
      · rename_i s z h2 h3; exact absurd h3 (h7 s z h2)
      · rfl
  · rename_i h7
    split
    · rename_i e h1; exact absurd h1 (h7 e)
    · rfl
def mksE (e : TypeId) (by_ l c : Nat) (z : Value) (H : Heap) : Option (Value × HOp) :=
  bif l.ble c && (by_ * c).ble 140737488355328 && c.ble 4611686018427387904 && closed z then some (.slice (some ⟨H.n, 0, none⟩) l c, .push ⟨zerosOf z.cells.toList c, e, false⟩) else none
def mksT (e : TypeId) (l c : Nat) (H : Heap) : Option (Value × HOp) := match T.bytes e, T.size e, T.zero e with
  | some by_, some (_ + 1), some z => mksE e by_ l c z H
  | _, _, _ => none
def fmakeSlice (t : TypeId) (l c : Value) (H : Heap) : Option (Value × HOp) := match T.under t, nats l, nats c with
  | some (.slice e), some l, some c => mksT T e l c H
  | _, _, _ => none
theorem fmakeSlice_eq (t : TypeId) (l c : Value) (H : Heap) : on2 H (fmakeSlice T t l c H) = amakeSlice T t l c H := by
  unfold fmakeSlice amakeSlice
  split
  · rename_i e l c h1 h2 h3
    simp only [h1, h2, h3]
    unfold mksT
    split
    · rename_i by_ s z h4 h5 h6
      simp only [h4, h5, h6]
      unfold mksE
      cases (l.ble c && (by_ * c).ble 140737488355328 && c.ble 4611686018427387904 && closed z) <;> rfl
    · rename_i h7
      split
      · rename_i by_ s z h4 h5 h6; exact absurd h6 (h7 by_ s z h4 h5)
      · rfl
  · rename_i h7
    split
    · rename_i e l c h1 h2 h3; exact absurd h3 (h7 e l c h1 h2)
    · rfl
/-! Handlers -/
abbrev Hd := Program → Tab → Tr Value → Oper → Heap → RK → Bool
def slow : Hd := fun P T tm o H K => bnd (aop P T tm o H) (rK K)
def hMove (x : Operand) : Hd := fun P T tm o H K => evK tm x fun v => K (.val v) H
def pickK (vc u v : Value) (H : Heap) (K : RK) : Bool := match vc with
  | .bool t => Bool.rec (K (.val v) H) (K (.val u) H) t
  | _ => false
def hPick (c a b : Operand) : Hd := fun P T tm o H K => evK tm c fun vc => evK tm a fun u => evK tm b fun v => pickK vc u v H K
def hAlloc (e : TypeId) : Hd := fun P T tm o H K => bnd (T.zero e) fun z => cond (closed z) (hV2 (some (.pointer (some ⟨H.n, 0, none⟩), .push ⟨z.cells.toList, e, false⟩)) H K) false
def hBox (e : TypeId) (x : Operand) : Hd := fun P T tm o H K => evK tm x fun v => hV2 (some (.pointer (some ⟨H.n, 0, none⟩), .push ⟨v.cells.toList, e, false⟩)) H K
def hBuild (t : TypeId) (ps : Array (Nat × Operand)) : Hd := fun P T tm o H K => evpK tm ps.toList fun l => hV (abuild T t l) H K
def addrK (a : Option Addr) (K : Nat → Nat → Bool) : Bool := Option.rec false (fun x => Addr.rec (fun b off g => Option.rec (K b off) (fun _ => false) g) x) a
def ptrK (v : Value) (K : Nat → Nat → Bool) : Bool := match v with
  | .pointer a => addrK a K
  | _ => false
def loadObK (off : Nat) (o : Ob) (d : TypeDesc) (n : Nat) (K : Value → Bool) : Bool := Ob.rec (fun cs e r => Bool.rec (nthK cs off fun v => bnd v K) (dropK off cs fun l => takeK n l fun l => K (.agg ⟨l⟩)) (isRow d)) o
def loadK (t : TypeId) (v : Value) (H : Heap) (K : Value → Bool) : Bool := ptrK v fun b off => getK H.t b fun o => bnd o fun o => bnd (T.under t) fun d => bnd (T.size t) fun n => loadObK off o d n K
theorem loadK_eq (t : TypeId) (v : Value) (H : Heap) (K : Value → Bool) : loadK T t v H K = bnd (aload T t v H) K := by
  cases v with
  | pointer a => cases a with
    | none => rfl
    | some a =>
      obtain ⟨b, off, g⟩ := a
      cases g with
      | some g => rfl
      | none =>
        show getK H.t b _ = _
        rw [getK_eq]
        unfold aload
        simp only [Heap.get]
        cases H.t.get b with
        | none => rfl
        | some o => cases T.under t with
          | none => rfl
          | some d => cases T.size t with
            | none => rfl
            | some n =>
              obtain ⟨cs, e, r⟩ := o
              show (Bool.rec (motive := fun _ => Bool) (nthK cs off fun v => bnd v K) (dropK off cs fun l => takeK n l fun l => K (.agg ⟨l⟩)) (isRow d) : Bool) = bnd (bif isRow d then (bif ((cs.drop off).take n).length.beq n then some (.agg ((cs.drop off).take n).toArray) else none) else cs[off]?) K
              rw [nthK_eq, dropK_eq, takeK_eq]
              cases isRow d
              · rfl
              · simp only [cond_true]
                cases ((cs.drop off).take n).length.beq n <;> rfl
  | _ => rfl
def hLoad (t : TypeId) (a : Operand) : Hd := fun P T tm o H K => evK tm a fun v => loadK T t v H fun v => K (.val v) H
def put1K (b off : Nat) (v : Value) (H : Heap) (o : Ob) (K : RK) : Bool := Ob.rec (fun cs e r => Bool.rec (Bool.rec false (setK cs off v fun cs => fPut H.t b (some ⟨cs, e, false⟩) fun t => K .skip ⟨t, H.n⟩) (one v)) false r) o
def storeU (b off : Nat) (u : Value) (n : Nat) (H : Heap) (K : RK) : Bool := match u with
  | .agg cs => Bool.rec false (hS (fputC b off cs.toList H) H K) (Nat.beq cs.size n)
  | u => Bool.rec false (getK H.t b fun o => bnd o fun o => put1K b off u H o K) (Nat.beq 1 n)
def storeK (t : TypeId) (v u : Value) (H : Heap) (K : RK) : Bool := ptrK v fun b off => bnd (T.size t) fun n => storeU b off u n H K
theorem put1K_eq (b off : Nat) (v : Value) (hv : v.cells = #[v]) (H : Heap) (K : RK) : (getK H.t b fun o => bnd o fun o => put1K b off v H o K) = bnd (skp (aput b off v.cells.toList H)) (rK K) := by
  rw [getK_eq, hv]
  unfold aput
  simp only [Heap.get]
  cases H.t.get b with
  | none => rfl
  | some o =>
    obtain ⟨cs, e, r⟩ := o
    show (Bool.rec (motive := fun _ => Bool) (Bool.rec (motive := fun _ => Bool) false (setK cs off v fun cs => fPut H.t b (some ⟨cs, e, false⟩) fun t => K .skip ⟨t, H.n⟩) (one v)) false r : Bool) = bnd (skp (bif !r && [v].all one && (off + [v].length).ble cs.length then some (H.put b ⟨splice cs off [v], e, false⟩) else none)) (rK K)
    have e1 : [v].all one = one v := by simp
    rw [e1, setK_eq, show (off + [v].length) = off + 1 from rfl, fPut_eq]
    cases r
    · cases one v
      · rfl
      · cases (off + 1).ble cs.length <;> rfl
    · rfl
theorem storeK_eq (t : TypeId) (v u : Value) (H : Heap) (K : RK) : storeK T t v u H K = bnd (skp (astore T t v u H)) (rK K) := by
  cases v with
  | pointer a => cases a with
    | none => rfl
    | some a =>
      obtain ⟨b, off, g⟩ := a
      cases g with
      | some g => rfl
      | none =>
        show bnd (T.size t) (fun n => storeU b off u n H K) = _
        unfold astore
        simp only []
        cases T.size t with
        | none => rfl
        | some n =>
          simp only [bnd_some]
          have gen : ∀ u : Value, u.cells = #[u] → (Bool.rec (motive := fun _ => Bool) false (getK H.t b fun o => bnd o fun o => put1K b off u H o K) (Nat.beq 1 n) : Bool) = bnd (skp (bif u.cells.size.beq n then aput b off u.cells.toList H else none)) (rK K) := by
            intro u hu
            rw [put1K_eq b off u hu H K, show u.cells.size.beq n = Nat.beq 1 n from by rw [hu]; rfl]
            cases Nat.beq 1 n <;> rfl
          cases u with
          | agg cs =>
            show (Bool.rec (motive := fun _ => Bool) false (hS (fputC b off cs.toList H) H K) (Nat.beq cs.size n) : Bool) = bnd (skp (bif cs.size.beq n then aput b off cs.toList H else none)) (rK K)
            rw [hS_eq, fputC_eq]
            cases Nat.beq cs.size n <;> rfl
          | _ => exact gen _ rfl
  | _ => rfl
def hStore (t : TypeId) (a x : Operand) : Hd := fun P T tm o H K => evK tm a fun v => evK tm x fun u => storeK T t v u H K
def binS (op : BinOp) (t : TypeId) (u v : Value) : Hd := fun P T tm o H K => hV (orVal (abin T op t u v) (fallback P tm o)) H K
def binI (op : BinOp) (t : TypeId) (k j : IntKind) (x y : Int) : Hd := fun P T tm o H K =>
  Bool.rec (binS op t (.int k x) (.int j y) P T tm o H K) (nBin op k x y (fun v => K (.val v) H) (binS op t (.int k x) (.int j y) P T tm o H K)) (keq k j)
def binV (op : BinOp) (t : TypeId) (u v : Value) : Hd := match u, v with
  | .int k x, .int j y => binI op t k j x y
  | u, v => binS op t u v
def hBin (op : BinOp) (t : TypeId) (x y : Operand) : Hd := fun P T tm o H K => evK tm x fun u => evK tm y fun v => binV op t u v P T tm o H K
def notK (v : Value) (H : Heap) (K : RK) : Bool := match v with
  | .bool b => Bool.rec (K (.val (.bool true)) H) (K (.val (.bool false)) H) b
  | _ => false
def hNot (x : Operand) : Hd := fun P T tm o H K => evK tm x fun v => notK v H K
def convT (s d : TypeId) : Option IntKind := match T.under s, T.under d with
  | some _, some (.int k) => some k
  | _, _ => none
def convN (k : IntKind) (n : Int) (K : Value → Bool) : Bool := Int.rec (fun a => Bool.rec (sI (some (.int k (k.wrap (.ofNat a)))) K) (K (.int k (.ofNat a))) (Nat.ble a (kmax k))) (fun a => sI (some (.int k (k.wrap (.negSucc a)))) K) n
theorem convN_eq (k : IntKind) (n : Int) (K : Value → Bool) : convN k n K = K (.int k (k.wrap n)) := by
  cases n with
  | negSucc a => exact sI_eq _ _
  | ofNat a =>
    show (Bool.rec (motive := fun _ => Bool) (sI (some (.int k (k.wrap (.ofNat a)))) K) (K (.int k (.ofNat a))) (Nat.ble a (kmax k)) : Bool) = _
    cases h : Nat.ble a (kmax k)
    · exact sI_eq _ _
    · rw [wrap_fit k a h]
def convK (s d : TypeId) (v : Value) (K : Value → Bool) (F : Bool) : Bool := match v with
  | .int _ n => Option.rec F (fun k => convN k n K) (convT T s d)
  | _ => F
theorem convK_eq (s d : TypeId) (v : Value) (H : Heap) (w : Option Value) (K : Value → Bool) : convK T s d v K (bnd (orVal (aconvert T s d v H) w) K) = bnd (orVal (aconvert T s d v H) w) K := by
  cases v with
  | int j n =>
    show (Option.rec (motive := fun _ => Bool) _ (fun k => convN k n K) (convT T s d) : Bool) = _
    unfold convT aconvert
    cases T.under s with
    | none => rfl
    | some e => cases T.under d with
      | none => rfl
      | some d => cases d with
        | int k => exact convN_eq _ _ _
        | _ => rfl
  | _ => rfl
def hConvert (s d : TypeId) (x : Operand) : Hd := fun P T tm o H K => evK tm x fun v => convK T s d v (fun v => K (.val v) H) (hV (orVal (aconvert T s d v H) (fallback P tm o)) H K)
def hSlice (t : TypeId) (x : Operand) (lo hi mx : Option Operand) : Hd := fun P T tm o H K => evK tm x fun v => evoK tm lo fun l => evoK tm hi fun h => evoK tm mx fun m => hV (orVal (aslice T t v l h m) (fallback P tm o)) H K
def fieldOff (s : TypeId) (f : Nat) : Option Nat := match T.under s with
  | some (.struct fields) => match fields[f]? with
    | some fd => match T.size fd.type with
      | some (_ + 1) => some fd.offset
      | _ => none
    | none => none
  | _ => none
def fieldAddrK (s : TypeId) (v : Value) (f : Nat) (K : Value → Bool) : Bool := ptrK v fun b off => bnd (fieldOff T s f) fun k => fN (Nat.add off k) fun q => K (.pointer (some ⟨b, q, none⟩))
theorem fieldAddrK_eq (s : TypeId) (v : Value) (f : Nat) (K : Value → Bool) : fieldAddrK T s v f K = bnd (afield T s v f) K := by
  cases v with
  | pointer a => cases a with
    | none => rfl
    | some a =>
      obtain ⟨b, off, g⟩ := a
      cases g with
      | some g => rfl
      | none =>
        show bnd (fieldOff T s f) _ = _
        unfold fieldOff afield
        simp only [fN_eq]
        cases T.under s with
        | none => rfl
        | some d => cases d with
          | struct fields =>
            simp only []
            cases fields[f]? with
            | none => rfl
            | some fd =>
              simp only []
              cases T.size fd.type with
              | none => rfl
              | some n => cases n <;> rfl
          | _ => rfl
  | _ => rfl
def hFieldAddr (s : TypeId) (x : Operand) (f : Nat) : Hd := fun P T tm o H K => evK tm x fun v => fieldAddrK T s v f fun v => K (.val v) H
def fieldOf (t : TypeId) (v : Value) (f : Nat) : Option Value := match v, T.under t with
  | .agg cs, some (.struct fields) => match fields[f]? with
    | some fd => apart T fd.type cs fd.offset
    | none => none
  | _, _ => none
def fieldPl (t : TypeId) (f : Nat) : Option (TypeId × Nat) := match T.under t with
  | some (.struct fields) => match fields[f]? with
    | some fd => some (fd.type, fd.offset)
    | none => none
  | _ => none
def aggK (v : Value) (K : List Value → Bool) : Bool := match v with
  | .agg cs => K cs.toList
  | _ => false
def apartK (ty : TypeId) (cs : List Value) (off : Nat) (K : Value → Bool) : Bool := bnd (T.under ty) fun d => bnd (T.size ty) fun n => Bool.rec (nthK cs off fun v => bnd v K) (dropK off cs fun l => takeU n l fun l => K (.agg ⟨l⟩)) (isRow d)
theorem apartK_eq (ty : TypeId) (cs : Array Value) (off : Nat) (K : Value → Bool) : apartK T ty cs.toList off K = bnd (apart T ty cs off) K := by
  unfold apartK apart
  cases T.under ty with
  | none => rfl
  | some d => cases T.size ty with
    | none => rfl
    | some n =>
      simp only [bnd_some]
      rw [nthK_eq, dropK_eq, takeU_eq]
      cases isRow d
      · simp only [cond_false, Array.getElem?_toList]
      · have : cs.extract off (off + n) = ⟨(cs.toList.drop off).take n⟩ := by
          apply Array.ext'
          rw [Array.toList_extract]
          simp [List.extract_eq_take_drop]
        simp only [cond_true, this]; rfl
def fieldK (t : TypeId) (v : Value) (f : Nat) (K : Value → Bool) : Bool := aggK v fun cs => bnd (fieldPl T t f) fun p => apartK T p.1 cs p.2 K
theorem fieldK_eq (t : TypeId) (v : Value) (f : Nat) (K : Value → Bool) : fieldK T t v f K = bnd (fieldOf T t v f) K := by
  cases v with
  | agg cs =>
    show bnd (fieldPl T t f) _ = _
    unfold fieldPl fieldOf
    cases T.under t with
    | none => rfl
    | some d => cases d with
      | struct fields =>
        simp only []
        cases fields[f]? with
        | none => rfl
        | some fd => exact apartK_eq T _ _ _ _
      | _ => rfl
  | _ => rfl
def hField (t : TypeId) (x : Operand) (f : Nat) : Hd := fun P T tm o H K => evK tm x fun v => fieldK T t v f fun v => K (.val v) H
def idxT (t : TypeId) : Option (Nat × Option Nat) := match T.under t with
  | some (.slice e) => match T.size e with | some n => some (n, none) | none => none
  | some (.array len e) => match T.size e with | some n => some (n, some len) | none => none
  | _ => none
def slcK (v : Value) (K : Option Addr → Nat → Bool) : Bool := match v with
  | .slice a len _ => K a len
  | _ => false
def idxU (i n : Nat) (a : Option Nat) (u : Value) (K : Value → Bool) : Bool :=
  Option.rec (slcK u fun a len => addrK a fun b off => Bool.rec false (fN (Nat.add off (Nat.mul i n)) fun q => K (.pointer (some ⟨b, q, none⟩))) (Nat.ble (Nat.succ i) len))
    (fun len => ptrK u fun b off => Bool.rec false (fN (Nat.add off (Nat.mul i n)) fun q => K (.pointer (some ⟨b, q, none⟩))) (Nat.ble (Nat.succ i) len)) a
def natK (v : Value) (K : Nat → Bool) : Bool := match v with
  | .int _ n => Int.rec (fun i => K i) (fun _ => false) n
  | _ => false
def idxK (t : TypeId) (u v : Value) (K : Value → Bool) : Bool := natK v fun i => bnd (idxT T t) fun p => idxU i p.1 p.2 u K
theorem idxK_eq (t : TypeId) (u v : Value) (K : Value → Bool) : idxK T t u v K = bnd (aindexAddr T t u v) K := by
  cases v with
  | int k z => cases z with
    | negSucc z => rfl
    | ofNat i =>
      show bnd (idxT T t) _ = _
      unfold idxT aindexAddr
      cases T.under t with
      | none => cases u <;> rfl
      | some d => cases d with
        | slice e =>
          simp only []
          cases hs : T.size e with
          | none =>
            cases u with
            | slice a len c => cases a with
              | none => rfl
              | some a =>
                obtain ⟨b, off, g⟩ := a
                cases g with
                | none => simp only [hs]; rfl
                | some g => rfl
            | _ => rfl
          | some n =>
            show idxU i n none u K = _
            cases u with
            | slice a len c => cases a with
              | none => rfl
              | some a =>
                obtain ⟨b, off, g⟩ := a
                cases g with
                | some g => rfl
                | none =>
                  show (Bool.rec (motive := fun _ => Bool) false (fN (Nat.add off (Nat.mul i n)) fun q => K (.pointer (some ⟨b, q, none⟩))) (i.blt len) : Bool) = _
                  rw [fN_eq]
                  simp only [hs]
                  cases i.blt len <;> rfl
            | _ => rfl
        | array len e =>
          simp only []
          cases hs : T.size e with
          | none =>
            cases u with
            | pointer a => cases a with
              | none => rfl
              | some a =>
                obtain ⟨b, off, g⟩ := a
                cases g with
                | none => simp only [hs]; rfl
                | some g => rfl
            | _ => rfl
          | some n =>
            show idxU i n (some len) u K = _
            cases u with
            | pointer a => cases a with
              | none => rfl
              | some a =>
                obtain ⟨b, off, g⟩ := a
                cases g with
                | some g => rfl
                | none =>
                  show (Bool.rec (motive := fun _ => Bool) false (fN (Nat.add off (Nat.mul i n)) fun q => K (.pointer (some ⟨b, q, none⟩))) (i.blt len) : Bool) = _
                  rw [fN_eq]
                  simp only [hs]
                  cases i.blt len <;> rfl
            | _ => rfl
        | _ => cases u <;> rfl
  | _ => rfl
def hIndexAddr (t : TypeId) (x ix : Operand) : Hd := fun P T tm o H K => evK tm x fun u => evK tm ix fun v => idxK T t u v fun v => K (.val v) H
def hIndex (t : TypeId) (x ix : Operand) : Hd := fun P T tm o H K => evK tm x fun u => evK tm ix fun v => hV (orVal (aindex T t u v) (fallback P tm o)) H K
def extractOf (i : Nat) (v : Value) : Option Value := match v with
  | .tuple vs => vs[i]?
  | _ => none
def extractK (i : Nat) (v : Value) (K : Value → Bool) : Bool := match v with
  | .tuple vs => nthK vs.toList i fun v => bnd v K
  | _ => false
theorem extractK_eq (i : Nat) (v : Value) (K : Value → Bool) : extractK i v K = bnd (extractOf i v) K := by
  cases v with
  | tuple vs => show nthK vs.toList i _ = _; rw [nthK_eq, Array.getElem?_toList]; rfl
  | _ => rfl
def hExtract (x : Operand) (i : Nat) : Hd := fun P T tm o H K => evK tm x fun v => extractK i v fun v => K (.val v) H
/-- A row of one element, which is one cell. -/
def bslTy (t : TypeId) : Option TypeId := match T.under t with
  | some (.slice e) => match T.size e, T.zero e with
    | some 1, some z => bif closed z && z.cells.size.beq 1 then some e else none
    | _, _ => none
  | _ => none
def bsl1 (t : TypeId) (n : Nat) (v : Value) (H : Heap) (K : RK) (F : Bool) : Bool :=
  Bool.rec F (Bool.rec F (Option.rec F (fun e => fPut H.t H.n (some ⟨[v], e, false⟩) fun t => fN (Nat.succ H.n) fun m => K (.val (.slice (some ⟨H.n, 0, none⟩) 1 1)) ⟨t, m⟩) (bslTy T t)) (one v)) (Nat.beq n 1)
def bslK (t : TypeId) (n : Nat) (l : List (Nat × Value)) (H : Heap) (K : RK) : Bool := match l with
  | [(0, v)] => bsl1 T t n v H K (hV2 (fbuildSlice T t n [(0, v)] H) H K)
  | l => hV2 (fbuildSlice T t n l H) H K
theorem one_cells {v : Value} (h : one v = true) : v.cells = #[v] := by cases v <;> first | rfl | cases h
theorem bslK_eq (t : TypeId) (n : Nat) (l : List (Nat × Value)) (H : Heap) (K : RK) : bslK T t n l H K = bnd (val2 (abuildSlice T t n l H)) (rK K) := by
  rw [← fbuildSlice_eq, ← hV2_eq]
  unfold bslK
  split
  · rename_i v
    unfold bsl1
    generalize hF : hV2 (fbuildSlice T t n [(0, v)] H) H K = F
    cases hn : Nat.beq n 1
    · rfl
    have hn := Nat.eq_of_beq_eq_true hn
    subst hn
    cases hv : one v
    · rfl
    show (Option.rec (motive := fun _ => Bool) F (fun e => fPut H.t H.n (some ⟨[v], e, false⟩) fun t => fN (Nat.succ H.n) fun m => K (.val (.slice (some ⟨H.n, 0, none⟩) 1 1)) ⟨t, m⟩) (bslTy T t) : Bool) = F
    cases hb : bslTy T t with
    | none => rfl
    | some e =>
      unfold bslTy at hb
      split at hb
      · rename_i e' h1
        split at hb
        · rename_i z h2 h3
          cases hz : (closed z && z.cells.size.beq 1)
          · rw [hz] at hb; cases hb
          rw [hz] at hb
          cases hb
          rw [← hF, hV2_eq]
          unfold fbuildSlice
          simp only [h1]
          unfold bslT
          simp only [h2, h3]
          unfold bslE
          simp only [Bool.and_eq_true] at hz
          have hs := Nat.eq_of_beq_eq_true hz.2
          have hc := one_cells hv
          have hzl : ∃ c, z.cells = #[c] := by
            refine ⟨z.cells[0], ?_⟩
            apply Array.ext
            · simp [hs]
            · intro i h1 h2; simp at h2; subst h2; rfl
          obtain ⟨c, hzl⟩ := hzl
          have hfill : Instr.fill (fun i => some (i * (0 + 1), 0 + 1)) (zerosOf z.cells.toList 1).toArray [(0, v)] = some #[v] := by
            rw [hzl]
            simp [zerosOf, Instr.fill, hc]
          simp only [hz.1, hs, hfill, fPut_eq, fN_eq]
          rfl
        · cases hb
      · cases hb
  · rfl
def hBuildSlice (t : TypeId) (n : Nat) (ps : Array (Nat × Operand)) : Hd := fun P T tm o H K => evpK tm ps.toList fun l => bslK T t n l H K
def hMakeSlice (t : TypeId) (l c : Operand) : Hd := fun P T tm o H K => evK tm l fun u => evK tm c fun v => hV2 (fmakeSlice T t u v H) H K
def nilK (v : Value) (H : Heap) (K : RK) : Bool := match v with
  | .pointer (some a) => K (.val (.pointer (some a))) H
  | .func (.func f) g c => K (.val (.func (.func f) g c)) H
  | _ => false
def hNil (x : Operand) : Hd := fun P T tm o H K => evK tm x fun v => nilK v H K
/-- A call's own arguments between what a closure brings. -/
def argK (f c : List Value) (l : List Value) (K : Array Value → Bool) : Bool := match f, c with
  | [], [] => K ⟨l⟩
  | f, c => K ((⟨f⟩ : Array Value) ++ l.toArray ++ ⟨c⟩)
theorem argK_eq (f c : Array Value) (l : List Value) (K : Array Value → Bool) : argK f.toList c.toList l K = K (f ++ l.toArray ++ c) := by
  obtain ⟨f⟩ := f
  obtain ⟨c⟩ := c
  unfold argK
  split
  · rename_i h1 h2; simp only at h1 h2; subst h1 h2; simp
  · rfl
def callK (vf : Value) (l : List Value) (T : Tab) (H : Heap) (K : RK) : Bool := match vf with
  | .func (.func g) first cap => bnd (T.fn g) fun _ => argK first.toList cap.toList l fun a => K (.enter g a) H
  | _ => false
def hCallV (f : Operand) (args : Array Operand) : Hd := fun P T tm o H K => evK tm f fun vf => evsK tm args.toList fun l => callK vf l T H K
def app2 (st xt : TypeId) (l : List Value) : Hd := match l with
  | [s, x] => fun P T tm o H K => hV2 (fappend T st xt s x H) H K
  | _ => slow
def hAppend (st xt : TypeId) (args : Array Operand) : Hd := fun P T tm o H K => evsK tm args.toList fun l => app2 st xt l P T tm o H K
def hBuiltin (b : Builtin) (ts : List TypeId) (args : Array Operand) : Hd := match b, ts with
  | .append, [st, xt] => hAppend st xt args
  | _, _ => slow
def hCall (c : Call) : Hd := match c.callee with
  | .value f => hCallV f c.args
  | .invoke _ _ => slow
  | .builtin b => hBuiltin b c.argTypes.toList c.args
def opH (op : Op) : Hd := match op with
  | .buildSlice t n ps => hBuildSlice t n ps
  | .makeSlice t l c => hMakeSlice t l c
  | .nilCheck x => hNil x
  | .call c => hCall c
  | .move x => hMove x
  | .assign x => hMove x
  | .pick c a b => hPick c a b
  | .alloc e => hAlloc e
  | .box e x => hBox e x
  | .build t ps => hBuild t ps
  | .load t a => hLoad t a
  | .store t a x => hStore t a x
  | .binOp op t x y _ => hBin op t x y
  | .unOp .not _ x => hNot x
  | .convert s d x => hConvert s d x
  | .slice t x lo hi mx => hSlice t x lo hi mx
  | .fieldAddr s x f => hFieldAddr s x f
  | .field t x f => hField t x f
  | .indexAddr t x ix => hIndexAddr t x ix
  | .index t x ix => hIndex t x ix
  | .extract x i => hExtract x i
  | _ => slow
theorem opH_eq (tm : Tr Value) (o : Oper) (H : Heap) (K : RK) : opH o.op P T tm o H K = bnd (aop P T tm o H) (rK K) := by
  have hop : aop P T tm o H = aop P T tm o H := rfl
  generalize e : o.op = op
  cases op with
  | move x => simp only [opH, hMove, hPick, hAlloc, hBox, hBuild, hLoad, hStore, hBin, hNot, hConvert, hSlice, hFieldAddr, hField, hIndexAddr, hIndex, hExtract, hMakeSlice, hNil, hCall, hCallV]; rw [evK_eq]; simp only [aop, e]; cases aeval tm x <;> rfl
  | assign x => simp only [opH, hMove, hPick, hAlloc, hBox, hBuild, hLoad, hStore, hBin, hNot, hConvert, hSlice, hFieldAddr, hField, hIndexAddr, hIndex, hExtract, hMakeSlice, hNil, hCall, hCallV]; rw [evK_eq]; simp only [aop, e]; cases aeval tm x <;> rfl
  | pick c a b =>
    simp only [opH, hMove, hPick, hAlloc, hBox, hBuild, hLoad, hStore, hBin, hNot, hConvert, hSlice, hFieldAddr, hField, hIndexAddr, hIndex, hExtract, hMakeSlice, hNil, hCall, hCallV]
    simp only [evK_eq, aop, e]
    cases aeval tm c with
    | none => rfl
    | some vc => cases aeval tm a with
      | none => cases vc <;> rfl
      | some u => cases aeval tm b with
        | none => cases vc <;> rfl
        | some v => cases vc with
          | bool t => cases t <;> rfl
          | _ => rfl
  | alloc t =>
    show bnd (T.zero t) _ = _
    simp only [aop, e]
    cases T.zero t with
    | none => rfl
    | some z =>
      simp only [bnd_some]
      cases closed z
      · rfl
      · simp only [cond_true, hV2_eq]; rfl
  | box t x =>
    simp only [opH, hMove, hPick, hAlloc, hBox, hBuild, hLoad, hStore, hBin, hNot, hConvert, hSlice, hFieldAddr, hField, hIndexAddr, hIndex, hExtract, hMakeSlice, hNil, hCall, hCallV]
    simp only [evK_eq, aop, e]
    cases aeval tm x with
    | none => rfl
    | some v => simp only [bnd_some, hV2_eq]; rfl
  | build t ps =>
    show evpK tm ps.toList _ = _
    simp only [evpK_eq, aop, e]
    cases aevalp tm ps.toList with
    | none => rfl
    | some v => simp only [bnd_some, hV_eq]
  | load t a =>
    simp only [opH, hMove, hPick, hAlloc, hBox, hBuild, hLoad, hStore, hBin, hNot, hConvert, hSlice, hFieldAddr, hField, hIndexAddr, hIndex, hExtract, hMakeSlice, hNil, hCall, hCallV]
    simp only [evK_eq, aop, e]
    cases aeval tm a with
    | none => rfl
    | some v => simp only [bnd_some, loadK_eq]; cases aload T t v H <;> rfl
  | store t a x =>
    simp only [opH, hMove, hPick, hAlloc, hBox, hBuild, hLoad, hStore, hBin, hNot, hConvert, hSlice, hFieldAddr, hField, hIndexAddr, hIndex, hExtract, hMakeSlice, hNil, hCall, hCallV]
    simp only [evK_eq, aop, e]
    cases aeval tm a with
    | none => rfl
    | some v => cases aeval tm x with
      | none => rfl
      | some u => simp only [bnd_some, storeK_eq]
  | binOp op t x y z =>
    simp only [opH, hMove, hPick, hAlloc, hBox, hBuild, hLoad, hStore, hBin, hNot, hConvert, hSlice, hFieldAddr, hField, hIndexAddr, hIndex, hExtract, hMakeSlice, hNil, hCall, hCallV]
    simp only [evK_eq, aop, e]
    cases aeval tm x with
    | none => rfl
    | some u => cases aeval tm y with
      | none => rfl
      | some v =>
        simp only [bnd_some]
        unfold binV
        split
        · rename_i k a j b
          unfold binI
          rw [keq_eq]
          cases hk : (k == j)
          · show binS op t (.int k a) (.int j b) P T tm o H K = _
            simp only [binS, hV_eq]
          · have : k = j := by simpa using hk
            subst this
            show nBin op k a b (fun v => K (.val v) H) (binS op t (.int k a) (.int k b) P T tm o H K) = _
            simp only [nBin_eq, binS, hV_eq, abin, BEq.rfl]
            cases hs : isShift op
            · simp only [cond_false]
              cases hi : ibin op k a b <;> rfl
            · simp only [cond_true]
              cases hi : ishift op k a b <;> rfl
        · simp only [binS, hV_eq]
  | unOp u t x =>
    cases u with
    | not =>
      simp only [opH, hMove, hPick, hAlloc, hBox, hBuild, hLoad, hStore, hBin, hNot, hConvert, hSlice, hFieldAddr, hField, hIndexAddr, hIndex, hExtract, hMakeSlice, hNil, hCall, hCallV]
      simp only [evK_eq, aop, e]
      cases aeval tm x with
      | none => rfl
      | some v => cases v with
        | bool b => cases b <;> rfl
        | _ => rfl
    | _ => rfl
  | convert s d x =>
    simp only [opH, hMove, hPick, hAlloc, hBox, hBuild, hLoad, hStore, hBin, hNot, hConvert, hSlice, hFieldAddr, hField, hIndexAddr, hIndex, hExtract, hMakeSlice, hNil, hCall, hCallV]
    simp only [evK_eq, aop, e]
    cases aeval tm x with
    | none => rfl
    | some v =>
      simp only [bnd_some, hV_eq]
      have e2 : ∀ r : Option Value, bnd (val r H) (rK K) = bnd r fun v => K (.val v) H := fun r => by cases r <;> rfl
      rw [e2, convK_eq]
  | slice t x lo hi mx =>
    simp only [opH, hMove, hPick, hAlloc, hBox, hBuild, hLoad, hStore, hBin, hNot, hConvert, hSlice, hFieldAddr, hField, hIndexAddr, hIndex, hExtract, hMakeSlice, hNil, hCall, hCallV]
    simp only [evK_eq, evoK_eq, aop, e]
    cases aeval tm x with
    | none => rfl
    | some v => cases aevalo tm lo with
      | none => rfl
      | some l => cases aevalo tm hi with
        | none => rfl
        | some h => cases aevalo tm mx with
          | none => rfl
          | some m => simp only [bnd_some, hV_eq]
  | fieldAddr s x f =>
    simp only [opH, hMove, hPick, hAlloc, hBox, hBuild, hLoad, hStore, hBin, hNot, hConvert, hSlice, hFieldAddr, hField, hIndexAddr, hIndex, hExtract, hMakeSlice, hNil, hCall, hCallV]
    simp only [evK_eq, aop, e]
    cases aeval tm x with
    | none => rfl
    | some v => simp only [bnd_some, fieldAddrK_eq]; cases afield T s v f <;> rfl
  | field t x f =>
    simp only [opH, hMove, hPick, hAlloc, hBox, hBuild, hLoad, hStore, hBin, hNot, hConvert, hSlice, hFieldAddr, hField, hIndexAddr, hIndex, hExtract, hMakeSlice, hNil, hCall, hCallV]
    simp only [evK_eq, aop, e]
    cases aeval tm x with
    | none => rfl
    | some v =>
      simp only [bnd_some, fieldK_eq]
      unfold fieldOf
      cases v with
      | agg cs =>
        cases T.under t with
        | none => rfl
        | some d => cases d with
          | struct fields =>
            try simp only []
            cases fields[f]? with
            | none => rfl
            | some fd => simp only []; cases apart T fd.type cs fd.offset <;> rfl
          | _ => rfl
      | _ => rfl
  | indexAddr t x ix =>
    simp only [opH, hMove, hPick, hAlloc, hBox, hBuild, hLoad, hStore, hBin, hNot, hConvert, hSlice, hFieldAddr, hField, hIndexAddr, hIndex, hExtract, hMakeSlice, hNil, hCall, hCallV]
    simp only [evK_eq, aop, e]
    cases aeval tm x with
    | none => rfl
    | some v => cases aeval tm ix with
      | none => rfl
      | some w => simp only [bnd_some, idxK_eq]; cases aindexAddr T t v w <;> rfl
  | index t x ix =>
    simp only [opH, hMove, hPick, hAlloc, hBox, hBuild, hLoad, hStore, hBin, hNot, hConvert, hSlice, hFieldAddr, hField, hIndexAddr, hIndex, hExtract, hMakeSlice, hNil, hCall, hCallV]
    simp only [evK_eq, aop, e]
    cases aeval tm x with
    | none => rfl
    | some v => cases aeval tm ix with
      | none => rfl
      | some w => simp only [bnd_some, hV_eq]
  | extract x i =>
    simp only [opH, hMove, hPick, hAlloc, hBox, hBuild, hLoad, hStore, hBin, hNot, hConvert, hSlice, hFieldAddr, hField, hIndexAddr, hIndex, hExtract, hMakeSlice, hNil, hCall, hCallV]
    simp only [evK_eq, aop, e]
    cases aeval tm x with
    | none => rfl
    | some v =>
      simp only [bnd_some, extractK_eq]
      cases v with
      | tuple vs => show bnd vs[i]? _ = bnd (val vs[i]? H) _; cases vs[i]? <;> rfl
      | _ => rfl
  | buildSlice t n ps =>
    show evpK tm ps.toList _ = _
    simp only [evpK_eq, aop, e]
    cases aevalp tm ps.toList with
    | none => rfl
    | some v => simp only [bnd_some, bslK_eq]
  | makeSlice t l c =>
    simp only [opH, hMove, hPick, hAlloc, hBox, hBuild, hLoad, hStore, hBin, hNot, hConvert, hSlice, hFieldAddr, hField, hIndexAddr, hIndex, hExtract, hMakeSlice, hNil, hCall, hCallV]
    simp only [evK_eq, aop, e]
    cases aeval tm l with
    | none => rfl
    | some v => cases aeval tm c with
      | none => rfl
      | some w => simp only [bnd_some, hV2_eq, fmakeSlice_eq]
  | nilCheck x =>
    simp only [opH, hMove, hPick, hAlloc, hBox, hBuild, hLoad, hStore, hBin, hNot, hConvert, hSlice, hFieldAddr, hField, hIndexAddr, hIndex, hExtract, hMakeSlice, hNil, hCall, hCallV]
    simp only [evK_eq, aop, e]
    cases aeval tm x with
    | none => rfl
    | some v =>
      simp only [bnd_some]
      cases v with
      | pointer a => cases a <;> rfl
      | func f g c => cases f <;> rfl
      | _ => rfl
  | call c =>
    obtain ⟨cal, args, ts⟩ := c
    cases cal with
    | value f =>
      simp only [opH, hMove, hPick, hAlloc, hBox, hBuild, hLoad, hStore, hBin, hNot, hConvert, hSlice, hFieldAddr, hField, hIndexAddr, hIndex, hExtract, hMakeSlice, hNil, hCall, hCallV]
      simp only [evK_eq, evsK_eq, aop, e, acall]
      cases aeval tm f with
      | none => rfl
      | some vf => cases aevals tm args.toList with
        | none => cases vf with
          | func f g c => cases f <;> rfl
          | _ => rfl
        | some l =>
          simp only [bnd_some]
          cases vf with
          | func f g c =>
            cases f with
            | func q =>
              show bnd (T.fn q) _ = _
              simp only [argK_eq]
              cases T.fn q <;> rfl
            | _ => rfl
          | _ => rfl
    | invoke r m => rfl
    | builtin b =>
      show hBuiltin b ts.toList args P T tm o H K = _
      generalize hts : ts.toList = tl
      cases b with
      | append =>
        cases tl with
        | nil => rfl
        | cons st tl => cases tl with
          | nil => rfl
          | cons xt tl => cases tl with
            | cons y tl => rfl
            | nil =>
              show evsK tm args.toList _ = _
              rw [evsK_eq]
              cases hl : aevals tm args.toList with
              | none =>
                simp only [aop, e, acall, hts, hl]; rfl
              | some l =>
                simp only [bnd_some]
                cases l with
                | nil => rfl
                | cons s l => cases l with
                  | nil => rfl
                  | cons x l => cases l with
                    | cons y l => rfl
                    | nil =>
                      show hV2 (fappend T st xt s x H) H K = _
                      simp only [aop, e, acall, hts, hl, hV2_eq, fappend_eq]
      | _ => rfl
  | _ => rfl
end
end Go.Ev
