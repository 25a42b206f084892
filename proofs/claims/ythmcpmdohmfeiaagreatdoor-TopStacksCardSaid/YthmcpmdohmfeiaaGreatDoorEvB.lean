/- The evaluator: operations, regions, code, calls over named memory. -/
import Derived.Test.YthmcpmdohmfeiaaGreatDoorEvA
namespace Go.Ev
open Go
set_option linter.unusedVariables false
/-- What is known of a program's types and functions. -/
structure Tab where
  under : TypeId → Option TypeDesc
  size : TypeId → Option Nat
  bytes : TypeId → Option Nat
  zero : TypeId → Option Value
  fn : FuncId → Option Func
  /-- Calls that are known to give data of data, and to change nothing that was there. -/
  orc : FuncId → List Value → Option Value
  /-- Calls (of functions that are not walked) that are known to give data of what lies in memory, and to change nothing that was there. -/
  mor : FuncId → List Value → Heap → Option Value := fun _ _ _ => none
  /-- Functions that are there, though they are not walked. -/
  has : FuncId → Bool := fun _ => false
/-- May a function be called? -/
def Tab.can (T : Tab) (g : FuncId) : Option Unit := match T.fn g with | some _ => some () | none => bif T.has g then some () else none
def isRow : TypeDesc → Bool
  | .struct _ | .array _ _ => true
  | _ => false
/-- A program's part without memory. -/
def prun {α : Type} (P : Program) : Sem α → Option α
  | .pure a => some a
  | .program k => prun P (k P)
  | _ => none
inductive Res where
  | val (v : Value)
  | skip
  | enter (f : FuncId) (args : Array Value)
section
variable (T : Tab)
def apart (t : TypeId) (cs : Array Value) (off : Nat) : Option Value :=
  match T.under t, T.size t with
  | some d, some n => bif isRow d then some (.agg (cs.extract off (off + n))) else cs[off]?
  | _, _ => none
def aload (t : TypeId) (v : Value) (H : Heap) : Option Value :=
  match v with
  | .pointer (some ⟨b, off, none⟩) =>
    match H.get b, T.under t, T.size t with
    | some o, some d, some n =>
      bif isRow d then
        let l := (o.cells.drop off).take n
        bif l.length.beq n then some (.agg l.toArray) else none
      else o.cells[off]?
    | _, _, _ => none
  | _ => none
def splice (l : List Value) (off : Nat) (cs : List Value) : List Value :=
  match cs with
  | [v] => l.set off v
  | _ => l.take off ++ cs ++ l.drop (off + cs.length)
def one : Value → Bool
  | .agg _ | .tuple _ => false
  | _ => true
/-- Cells into a block, from a cell on. -/
def aput (b off : Nat) (cs : List Value) (H : Heap) : Option Heap :=
  match H.get b with
  | some o => bif !o.ro && cs.all one && (off + cs.length).ble o.cells.length then some (H.put b ⟨splice o.cells off cs, o.elem, false⟩) else none
  | none => none
def astore (t : TypeId) (v x : Value) (H : Heap) : Option Heap :=
  match v with
  | .pointer (some ⟨b, off, none⟩) =>
    match T.size t with
    | some n => bif x.cells.size.beq n then aput b off x.cells.toList H else none
    | none => none
  | _ => none
def ibin (op : BinOp) (k : IntKind) (x y : Int) : Option Value :=
  match op with
  | .add => some (.int k (k.wrap (x + y)))
  | .sub => some (.int k (k.wrap (x - y)))
  | .mul => some (.int k (k.wrap (x * y)))
  | .quo => bif y == 0 then none else some (.int k (k.wrap (x.tdiv y)))
  | .rem => bif y == 0 then none else some (.int k (x.tmod y))
  | .and => some (.int k (k.wrap (BitVec.ofInt k.bits x &&& BitVec.ofInt k.bits y).toNat))
  | .or => some (.int k (k.wrap (BitVec.ofInt k.bits x ||| BitVec.ofInt k.bits y).toNat))
  | .xor => some (.int k (k.wrap (BitVec.ofInt k.bits x ^^^ BitVec.ofInt k.bits y).toNat))
  | .andNot => some (.int k (k.wrap (BitVec.ofInt k.bits x &&& ~~~ BitVec.ofInt k.bits y).toNat))
  | .eql => some (.bool (x == y))
  | .neq => some (.bool (x != y))
  | .lss => some (.bool (x < y))
  | .leq => some (.bool (x ≤ y))
  | .gtr => some (.bool (x > y))
  | .geq => some (.bool (x ≥ y))
  | _ => none
def ishift (op : BinOp) (k : IntKind) (x y : Int) : Option Value :=
  bif decide (y < 0) then none else
  match op with
  | .shl => some (.int k (k.wrap (x * 2 ^ min y.toNat k.bits)))
  | .shr => some (.int k (x.fdiv (2 ^ min y.toNat k.bits)))
  | _ => none
def isShift : BinOp → Bool | .shl | .shr => true | _ => false
def isNilP : Value → Bool | .pointer none => true | _ => false
/-- An operation on two values, where it has a short form here. -/
def abin (op : BinOp) (t : TypeId) (x y : Value) : Option Value :=
  match x, y with
  | .int k a, .int k' b => bif isShift op then ishift op k a b else bif k == k' then ibin op k a b else none
  | .bool a, .bool b =>
    match op, T.under t with
    | .eql, some .bool => some (.bool (a == b))
    | .neq, some .bool => some (.bool (a != b))
    | _, _ => none
  | .pointer none, .pointer b =>
    match op, T.under t with
    | .eql, some (.pointer _) => some (.bool b.isNone)
    | .neq, some (.pointer _) => some (.bool !b.isNone)
    | _, _ => none
  | .pointer (some a), .pointer none =>
    match op, T.under t with
    | .eql, some (.pointer _) => some (.bool false)
    | .neq, some (.pointer _) => some (.bool true)
    | _, _ => none
  | .slice none _ _, .slice b _ _ =>
    match op, T.under t with
    | .eql, some (.slice _) => some (.bool b.isNone)
    | .neq, some (.slice _) => some (.bool !b.isNone)
    | _, _ => none
  | .slice (some _) _ _, .slice none _ _ =>
    match op, T.under t with
    | .eql, some (.slice _) => some (.bool false)
    | .neq, some (.slice _) => some (.bool true)
    | _, _ => none
  | _, _ => none
def aslice (t : TypeId) (x : Value) (lo hi mx : Option Value) : Option Value :=
  match mx with
  | some _ => none
  | none =>
  match T.under t, x with
  | some (.slice e), .slice a len cap =>
    match T.size e, (match lo with | none => some 0 | some (.int _ (.ofNat l)) => some l | _ => none), (match hi with | none => some len | some (.int _ (.ofNat h)) => some h | _ => none) with
    | some size, some l, some h =>
      bif l.ble h then
        bif unk.ble cap then
          match a with
          | some ⟨b, off, none⟩ => bif h.ble len && cap.beq (unk + size) then some (.slice (some ⟨b, off + l * size, none⟩) (h - l) (unk + size)) else none
          | _ => none
        else bif h.ble cap then some (.slice (bif cap.beq l then a else a.map (·.add (l * size))) (h - l) (cap - l)) else none
      else none
    | _, _, _ => none
  | some (.array n e), .pointer (some ⟨b, off, none⟩) =>
    match T.size e, (match lo with | none => some 0 | some (.int _ (.ofNat l)) => some l | _ => none), (match hi with | none => some n | some (.int _ (.ofNat h)) => some h | _ => none) with
    | some size, some l, some h =>
      bif l.ble h && h.ble n && n.blt unk then some (.slice (some (bif n.beq l then ⟨b, off, none⟩ else (⟨b, off, none⟩ : Addr).add (l * size))) (h - l) (n - l)) else none
    | _, _, _ => none
  | _, _ => none
def afield (s : TypeId) (v : Value) (f : Nat) : Option Value :=
  match v, T.under s with
  | .pointer (some ⟨b, off, none⟩), some (.struct fields) =>
    match fields[f]? with
    | some fd => match T.size fd.type with
      | some (_ + 1) => some (.pointer (some ⟨b, off + fd.offset, none⟩))
      | _ => none
    | none => none
  | _, _ => none
def aindexAddr (t : TypeId) (x ix : Value) : Option Value :=
  match ix with
  | .int _ (.ofNat i) =>
    match T.under t, x with
    | some (.slice e), .slice (some ⟨b, off, none⟩) len _ =>
      match T.size e with
      | some n => bif i.blt len then some (.pointer (some ⟨b, off + i * n, none⟩)) else none
      | none => none
    | some (.array len e), .pointer (some ⟨b, off, none⟩) =>
      match T.size e with
      | some n => bif i.blt len then some (.pointer (some ⟨b, off + i * n, none⟩)) else none
      | none => none
    | _, _ => none
  | _ => none
def aindex (t : TypeId) (x ix : Value) : Option Value :=
  match ix with
  | .int _ (.ofNat i) =>
    match T.under t, x with
    | some (.array len e), .agg cs =>
      match T.size e with
      | some n => bif i.blt len then apart T e cs (i * n) else none
      | none => none
    | _, _ => none
  | _ => none
def zerosOf (z : List Value) (n : Nat) : List Value :=
  match z with
  | [v] => List.replicate n v
  | _ => (List.replicate n z).flatten
def nats : Value → Option Nat
  | .int _ (.ofNat n) => some n
  | _ => none
def amakeSlice (t : TypeId) (l c : Value) (H : Heap) : Option (Value × Heap) :=
  match T.under t, nats l, nats c with
  | some (.slice e), some l, some c =>
    match T.bytes e, T.size e, T.zero e with
    | some by_, some (_ + 1), some z => bif l.ble c && (by_ * c).ble 140737488355328 && c.ble 4611686018427387904 && closed z then some (.slice (some ⟨H.n, 0, none⟩) l c, H.push ⟨zerosOf z.cells.toList c, e, false⟩) else none
    | _, _, _ => none
  | _, _, _ => none
/-- Values laid into cells. -/
def afill (T : Tab) (place : Nat → Option (Nat × Nat)) (zero : Array Value) (parts : List (Nat × Value)) : Option (Array Value) := Instr.fill place zero parts
def places (fs : List Field) : Option (List (Nat × Nat)) :=
  match fs with
  | [] => some []
  | f :: r => match T.size f.type, places r with
    | some n, some l => some ((f.offset, n) :: l)
    | _, _ => none
def abuild (t : TypeId) (parts : List (Nat × Value)) : Option Value :=
  match T.under t, T.zero t with
  | some (.struct fields), some z =>
    bif closed z then
    match places T fields.toList with
    | some ps => match Instr.fill (fun i => ps[i]?) z.cells parts with
      | some cs => some (.agg cs)
      | none => none
    | none => none
    else none
  | some (.array _ e), some z =>
    bif closed z then
    match T.size e with
    | some size => match Instr.fill (fun i => some (i * size, size)) z.cells parts with
      | some cs => some (.agg cs)
      | none => none
    | none => none
    else none
  | _, _ => none
def abuildSlice (t : TypeId) (len : Nat) (parts : List (Nat × Value)) (H : Heap) : Option (Value × Heap) :=
  match T.under t with
  | some (.slice e) =>
    match T.size e, T.zero e with
    | some (s + 1), some z =>
      bif (len * (s + 1)).ble 16777216 && closed z && z.cells.size.beq (s + 1) then
      match Instr.fill (fun i => some (i * (s + 1), s + 1)) (zerosOf z.cells.toList len).toArray parts with
      | some cs => some (.slice (some ⟨H.n, 0, none⟩) len len, H.push ⟨cs.toList, e, false⟩)
      | none => none
      else none
    | _, _ => none
  | _ => none
/-- How many elements, and their cells. -/
def asrc (size : Nat) (x : Value) (H : Heap) : Option (Nat × List Value) :=
  match x with
  | .slice none n _ => bif n.beq 0 then some (0, []) else none
  | .slice (some ⟨b, off, none⟩) n _ =>
    match H.get b with
    | some o =>
      let l := (o.cells.drop off).take (n * size)
      bif l.length.beq (n * size) then some (n, l) else none
    | none => none
  | .string s => bif size.beq 1 then some (s.size, s.data.toList.map fun b => .int .u8 b.toNat) else none
  | _ => none
def blockOf : Value → Option Nat
  | .slice (some a) _ _ => some a.block
  | _ => none
def isIntD : TypeDesc → Bool | .int _ => true | _ => false
def aappend (st xt : TypeId) (s x : Value) (H : Heap) : Option (Value × Heap) :=
  match T.under st, T.under xt, s with
  | some (.slice e), some xd, .slice base len cap =>
    bif isIntD xd then none else
    match T.size e, T.bytes e, T.zero e with
    | some (s0 + 1), some (by_ + 1), some _ =>
      match asrc (s0 + 1) x H with
      | some (n, new) =>
        match base with
        | none =>
          bif len.beq 0 && cap.beq 0 then
            bif n.beq 0 then some (s, H) else bif (n * (by_ + 1)).ble 140737488355328 then some (.slice (some ⟨H.n, 0, none⟩) n (unk + (s0 + 1)), H.push ⟨new, e, false⟩) else none
          else none
        | some ⟨b, off, none⟩ =>
          bif blockOf x == some b then none else
          match H.get b with
          | some o =>
            bif o.ro then none else
            bif unk.ble cap then
              bif o.elem.beq e then
              bif n.beq 0 then some (s, H) else
              bif (off + len * (s0 + 1)).ble o.cells.length && new.all one && ((len + n) * (by_ + 1)).ble 140737488355328 then some (.slice (some ⟨H.n, 0, none⟩) (len + n) (unk + (s0 + 1)), (H.kill b).push ⟨(o.cells.drop off).take (len * (s0 + 1)) ++ new, e, false⟩) else none
              else none
            else bif len.beq 0 && cap.beq 0 && n.beq 0 then
              bif o.elem.beq e && off.ble o.cells.length then some (.slice (some ⟨b, off, none⟩) 0 (unk + (s0 + 1)), H) else none
            else bif (len + n).ble cap then
              match aput b (off + len * (s0 + 1)) new H with
              | some H' => some (.slice (some ⟨b, off, none⟩) (len + n) cap, H')
              | none => none
            else bif n.beq 0 then none else
              bif (off + len * (s0 + 1)).ble o.cells.length && ((len + n) * (by_ + 1)).ble 140737488355328 then some (.slice (some ⟨H.n, 0, none⟩) (len + n) (unk + (s0 + 1)), H.push ⟨(o.cells.drop off).take (len * (s0 + 1)) ++ new, e, false⟩) else none
          | none => none
        | _ => none
      | none => none
    | _, _, _ => none
  | _, _, _ => none
/-- As many elements of a source as fit. -/
def atrim (k : Nat) : Value → Option (Nat × Value)
  | .slice a n c => some (Nat.min n k, .slice a (Nat.min n k) c)
  | .string s => some (Nat.min s.size k, .string (s.extract 0 (Nat.min s.size k)))
  | _ => none
def acopy (dt : TypeId) (d x : Value) (H : Heap) : Option (Value × Heap) :=
  match T.under dt, d with
  | some (.slice e), .slice base dlen _ =>
    match T.size e, atrim dlen x with
    | some (s0 + 1), some (n, y) =>
      match asrc (s0 + 1) y H with
      | some (_, []) => some (.int .i64 n, H)
      | some (_, l) => match base with
        | some ⟨b, off, none⟩ => match aput b off l H with | some H' => some (.int .i64 n, H') | none => none
        | _ => none
      | none => none
    | _, _ => none
  | _, _ => none
/-- Bytes as a string. -/
def bytesOf : List Value → Option ByteArray
  | l => go l .empty
where go : List Value → ByteArray → Option ByteArray
  | [], s => some s
  | .int .u8 n :: r, s => go r (s.push (UInt8.ofNat n.toNat))
  | _, _ => none
def isU8 : Option TypeDesc → Bool | some (.int .u8) => true | _ => false
def aconvert (src dst : TypeId) (x : Value) (H : Heap) : Option Value :=
  match T.under src, T.under dst, x with
  | some _, some (.int k), .int _ n => some (.int k (k.wrap n))
  | some (.slice e), some .string, .slice none _ _ => bif isU8 (T.under e) then some (.string .empty) else none
  | some (.slice e), some .string, .slice (some ⟨b, off, none⟩) n _ =>
    bif isU8 (T.under e) then
      match H.get b with
      | some o =>
        let l := (o.cells.drop off).take n
        bif l.length.beq n then (match bytesOf l with | some s => some (.string s) | none => none) else none
      | none => none
    else none
  | _, _, _ => none
end
section
variable (P : Program) (T : Tab)
def aeval (tm : Tr Value) : Operand → Option Value
  | .tmp t => some ((tm.get t).getD undef)
  | .const v => bif closed v then some v else none
  | .func f => some (.func (.func f) #[] #[])
  | .global _ => none
def aevals (tm : Tr Value) : List Operand → Option (List Value)
  | [] => some []
  | x :: r => match aeval tm x, aevals tm r with
    | some v, some l => some (v :: l)
    | _, _ => none
def aevalo (tm : Tr Value) : Option Operand → Option (Option Value)
  | none => some none
  | some x => match aeval tm x with | some v => some (some v) | none => none
def aevalp (tm : Tr Value) : List (Nat × Operand) → Option (List (Nat × Value))
  | [] => some []
  | (i, x) :: r => match aeval tm x, aevalp tm r with
    | some v, some l => some ((i, v) :: l)
    | _, _ => none
def ρ (tm : Tr Value) (x : Operand) : Value := (aeval tm x).getD undef
/-- Where all that an operation looks at is data of its own: the model's own run. -/
def dataAt (tm : Tr Value) (x : Operand) : Bool := match aeval tm x with | some v => closed v | none => false
/-- Are two rows of flat cells the same, field by field? -/
def aeqF (xs ys : Array Value) : List Field → Option Bool
  | [] => some true
  | f :: r => bif f.name == "_" then none else
    match P.underlying f.type, xs[f.offset]?, ys[f.offset]?, aeqF xs ys r with
    | some (.int _), some (.int k a), some (.int k' b), some q => bif k == k' then some ((a == b) && q) else none
    | some .bool, some (.bool a), some (.bool b), some q => some ((a == b) && q)
    | _, _, _, _ => none
def isStr (d : Option TypeDesc) : Bool := match d with | some (.struct _) => true | _ => false
def fsOf (t : TypeId) : List Field := match P.underlying t with | some (.struct fs) => fs.toList | _ => []
def aggEq (tm : Tr Value) (o : Oper) : Option Value :=
  match o.op with
  | .binOp op t a b _ =>
    match op, aeval tm a, aeval tm b with
    | .eql, some (.agg x), some (.agg y) => bif isStr (P.underlying t) && !P.stoodInHeld t && !P.eqGuardType P.depth t then (match aeqF P x y (fsOf P t) with | some q => some (.bool q) | none => none) else none
    | .neq, some (.agg x), some (.agg y) => bif isStr (P.underlying t) && !P.stoodInHeld t && !P.eqGuardType P.depth t then (match aeqF P x y (fsOf P t) with | some q => some (.bool !q) | none => none) else none
    | _, _, _ => none
  | _ => none
def fallback0 (tm : Tr Value) (o : Oper) : Option Value :=
  bif o.op.operands.toList.all (dataAt tm) then
    match prun P (execOp (ρ tm) o) with
    | some (.value v) => bif closed v then some v else none
    | _ => none
  else none
def fallback (tm : Tr Value) (o : Oper) : Option Value := match aggEq P tm o with | some v => bif o.op.operands.toList.all (dataAt tm) then some v else none | none => fallback0 P tm o
def isSelect : Op → Bool | .select .. => true | _ => false
def val (v : Option Value) (H : Heap) : Option (Res × Heap) := match v with | some v => some (.val v, H) | none => none
def val2 (r : Option (Value × Heap)) : Option (Res × Heap) := match r with | some (v, H) => some (.val v, H) | none => none
def skp (r : Option Heap) : Option (Res × Heap) := match r with | some H => some (.skip, H) | none => none
def orVal (v : Option Value) (w : Option Value) : Option Value := match v with | some v => some v | none => w
/-- Are two keys of a map the same? Numbers, and structs of numbers. -/
def keyEq (kt : TypeId) (x y : Value) : Option Bool :=
  match P.underlying kt, x, y with
  | some (.int q), .int k a, .int j b => bif k == q && j == q then some (a == b) else none
  | some (.struct fs), .agg u, .agg v => bif P.stoodInHeld kt then none else aeqF P u v fs.toList
  | _, _, _ => none
/-- What is in a map: a key, its value, when it was laid. -/
abbrev Row := Value × Value × Nat
def mcells (l : List Row) : List Value := l.flatMap fun x => [x.1, x.2.1, .int .i64 (x.2.2 : Nat)]
def mrows : List Value → Option (List Row)
  | [] => some []
  | k :: v :: .int .i64 (.ofNat n) :: r => match mrows r with | some l => some ((k, v, n) :: l) | none => none
  | _ => none
/-- A map: its clock, its rows. -/
def mparse : List Value → Option (Nat × List Row)
  | .int .i64 (.ofNat c) :: r => match mrows r with | some l => some (c, l) | none => none
  | _ => none
def mlay (c : Nat) (l : List Row) : List Value := .int .i64 (c : Nat) :: mcells l
/-- Where a key stands. -/
def mfind (kt : TypeId) (k : Value) : List Row → Nat → Option (Option (Nat × Value × Nat))
  | [], _ => some none
  | (y, v, n) :: r, i => match keyEq P kt k y with
    | some true => bif Instr.sameBits 10000 y k then some (some (i, v, n)) else none
    | some false => mfind kt k r (i + 1)
    | none => none
def mkey (kt : TypeId) (i : Value) : Bool := closed i && (match keyEq P kt i i with | some b => b | none => false)
def mapAt (u : Value) (H : Heap) : Option (Nat × Ob × Nat × List Row) := match u with
  | .map (some b) => match H.get b with
    | some o => match mparse o.cells with
      | some (c, l) => some (b, o, c, l)
      | none => none
    | none => none
  | _ => none
def kts (t : TypeId) : Option (TypeId × TypeId) := match T.under t with | some (.map kt et) => some (kt, et) | _ => none
def alookup (t : TypeId) (ok : Bool) (x i : Value) (H : Heap) : Option Value :=
  match kts T t, mapAt x H with
  | some (kt, et), some (_, _, _, l) => bif mkey P kt i then (match mfind P kt i l 0, T.zero et with
    | some (some (_, v, _)), some _ => some (bif ok then .tuple #[v, .bool true] else v)
    | some none, some z => bif closed z then some (bif ok then .tuple #[z, .bool false] else z) else none
    | _, _ => none) else none
  | _, _ => none
def aupdate (t : TypeId) (x i u : Value) (H : Heap) : Option Heap :=
  match kts T t, mapAt x H with
  | some (kt, _), some (b, o, c, l) => bif o.ro || !mkey P kt i then none else (match mfind P kt i l 0 with
    | some (some (j, _, n)) => some (H.put b ⟨mlay c (l.set j (i, u, n)), o.elem, false⟩)
    | some none => some (H.put b ⟨mlay (c + 1) (l ++ [(i, u, c)]), o.elem, false⟩)
    | none => none)
  | _, _ => none
def aentry (t : TypeId) (x i : Value) (H : Heap) : Option (Value × Heap) :=
  match kts T t, mapAt x H with
  | some (kt, et), some (b, o, c, l) => bif o.ro || !mkey P kt i then none else (match mfind P kt i l 0, T.zero et with
    | some (some (j, v, n)), some _ => some (.tuple #[v, .int .i64 (n : Nat)], H.put b ⟨mlay c (l.set j (i, v, n)), o.elem, false⟩)
    | some none, some z => bif closed z then some (.tuple #[z, .int .i64 (c : Nat)], H.put b ⟨mlay (c + 1) (l ++ [(i, z, c)]), o.elem, false⟩) else none
    | _, _ => none)
  | _, _ => none
def mborn (s : Nat) : List Row → Nat → Option (Nat × Row)
  | [], _ => none
  | x :: r, i => bif Nat.beq x.2.2 s then some (i, x) else mborn s r (i + 1)
def aestore (x st u : Value) (H : Heap) : Option Heap :=
  match mapAt x H, st with
  | some (b, o, c, l), .int _ (.ofNat s) => bif o.ro then none else (match mborn s l 0 with
    | some (j, y) => some (H.put b ⟨mlay c (l.set j (y.1, u, y.2.2)), o.elem, false⟩)
    | none => none)
  | _, _ => none
def adelete (mt : TypeId) (x i : Value) (H : Heap) : Option Heap :=
  match kts T mt, mapAt x H with
  | some (kt, _), some (b, o, c, l) => bif o.ro || !mkey P kt i then none else (match mfind P kt i l 0 with
    | some (some (j, _, _)) => some (H.put b ⟨mlay c (l.eraseIdx j), o.elem, false⟩)
    | some none => some (H.put b ⟨mlay c l, o.elem, false⟩)
    | none => none)
  | _, _ => none
/-- A walk over a map: which map, since when, when it went on last, what was seen. -/
def icells (b since st : Nat) (seen : List Nat) : List Value := .map (some b) :: .int .i64 (since : Nat) :: .int .i64 (st : Nat) :: seen.map fun n => .int .i64 (n : Nat)
def inats : List Value → Option (List Nat)
  | [] => some []
  | .int .i64 (.ofNat n) :: r => match inats r with | some l => some (n :: l) | none => none
  | _ => none
def iparse : List Value → Option (Nat × Nat × Nat × List Nat)
  | .map (some b) :: .int .i64 (.ofNat s) :: .int .i64 (.ofNat q) :: r => match inats r with | some l => some (b, s, q, l) | none => none
  | _ => none
def iterAt (u : Value) (H : Heap) : Option (Nat × Ob × Nat × Nat × Nat × List Nat) := match u with
  | .chan (some i) => match H.get i with
    | some o => match iparse o.cells with
      | some (b, s, q, l) => some (i, o, b, s, q, l)
      | none => none
    | none => none
  | _ => none
def arange (t : TypeId) (x : Value) (H : Heap) : Option (Value × Heap) :=
  match kts T t, mapAt x H with
  | some _, some (b, _, c, _) => some (.chan (some H.n), H.push ⟨icells b c c [], t, false⟩)
  | _, _ => none
def anext (x : Value) (H : Heap) : Option (Value × Heap) :=
  match iterAt x H with
  | some (i, io, b, since, q, seen) => match mapAt (.map (some b)) H with
    | some (_, _, c, l) =>
      bif Nat.ble since q && l.all fun e => Nat.blt e.2.2 since then
      match l.filter fun e => !seen.contains e.2.2 with
      | [] => some (.tuple #[.bool false], H)
      | [e] => some (.tuple #[.bool true, e.1, e.2.1], H.put i ⟨icells b since c (seen ++ [e.2.2]), io.elem, false⟩)
      | _ => none
      else none
    | none => none
  | none => none
def ainow (x : Value) (H : Heap) : Option Value :=
  match iterAt x H with
  | some (_, _, b, _, q, seen) => match mapAt (.map (some b)) H, seen.getLast? with
    | some (_, _, c, l), some s => bif Nat.beq c q then (match mborn s l 0 with | some (_, y) => some (.tuple #[y.1, y.2.1]) | none => none) else none
    | _, _ => none
  | none => none
/-- What a slice holds is made nothing. -/
def aclear (t : TypeId) (a : Option Addr) (n : Nat) (H : Heap) : Option Heap :=
  match n with
  | 0 => some H
  | n + 1 => match T.under t, a with
    | some (.slice e), some ⟨b, off, none⟩ => match T.zero e with
      | some z => bif closed z then aput b off (zerosOf z.cells.toList (n + 1)) H else none
      | none => none
    | _, _ => none
def acall (tm : Tr Value) (o : Oper) (c : Call) (H : Heap) : Option (Res × Heap) :=
  match c.callee with
  | .value f =>
    match aeval tm f, aevals tm c.args.toList with
    | some (.func (.func g) first cap), some l => match T.can g with
      | some _ => some (.enter g (first ++ l.toArray ++ cap), H)
      | none => none
    | _, _ => none
  | .invoke _ _ => none
  | .builtin b =>
    match b, c.argTypes.toList, aevals tm c.args.toList with
    | .append, [st, xt], some [s, x] => val2 (aappend T st xt s x H)
    | .copy, [dt, _], some [d, x] => val2 (acopy T dt d x H)
    | .len, [t], some [.slice _ n _] => match T.under t with | some (.slice _) => some (.val (.int .i64 n), H) | _ => none
    | .len, [t], some [.map (some b)] => match kts T t, mapAt (.map (some b)) H with | some _, some (_, _, _, l) => some (.val (.int .i64 l.length), H) | _, _ => none
    | .delete, [mt, _], some [x, k] => (match adelete P T mt x k H with | some H' => some (.val (.tuple #[]), H') | none => none)
    | .clear, [t], some [.slice a n _] => (match T.under t, aclear T t a n H with | some (.slice _), some H' => some (.val (.tuple #[]), H') | _, _ => none)
    | .clear, _, _ => none
    | .delete, _, _ => none
    | .max, _, some [.int k x, .int _ y] => some (.val (.int k (if y > x then y else x)), H)
    | .min, _, some [.int k x, .int _ y] => some (.val (.int k (if y < x then y else x)), H)
    | .copy, _, _ => none
    | .append, _, _ => none
    | _, _, _ => val (fallback P tm o) H
def amap (tm : Tr Value) (o : Oper) (H : Heap) : Option (Res × Heap) :=
  match o.op with
  | .makeMap t none => some (.val (.map (some H.n)), H.push ⟨mlay 0 [], t, false⟩)
  | .lookup t x i ok => match aeval tm x, aeval tm i with
    | some u, some v => val (alookup P T t ok u v H) H
    | _, _ => none
  | .mapUpdate t x i y => match aeval tm x, aeval tm i, aeval tm y with
    | some u, some v, some z => skp (aupdate P T t u v z H)
    | _, _, _ => none
  | .mapEntry t x i => match aeval tm x, aeval tm i with
    | some u, some v => val2 (aentry P T t u v H)
    | _, _ => none
  | .entryStore _ x s y => match aeval tm x, aeval tm s, aeval tm y with
    | some u, some v, some z => skp (aestore u v z H)
    | _, _, _ => none
  | .range t x => match aeval tm x with
    | some u => val2 (arange T t u H)
    | none => none
  | .next x false => match aeval tm x with
    | some u => val2 (anext u H)
    | none => none
  | .entry x => match aeval tm x with
    | some u => val (ainow u H) H
    | none => none
  | _ => none
def aop (tm : Tr Value) (o : Oper) (H : Heap) : Option (Res × Heap) :=
  match o.op with
  | .move x | .assign x => val (aeval tm x) H
  | .pick c a b => match aeval tm c, aeval tm a, aeval tm b with
    | some (.bool t), some u, some v => some (.val (bif t then u else v), H)
    | _, _, _ => none
  | .alloc e => match T.zero e with
    | some z => bif closed z then some (.val (.pointer (some ⟨H.n, 0, none⟩)), H.push ⟨z.cells.toList, e, false⟩) else none
    | none => none
  | .box e x => match aeval tm x with
    | some v => some (.val (.pointer (some ⟨H.n, 0, none⟩)), H.push ⟨v.cells.toList, e, false⟩)
    | none => none
  | .build t ps => match aevalp tm ps.toList with
    | some l => val (abuild T t l) H
    | none => none
  | .buildSlice t n ps => match aevalp tm ps.toList with
    | some l => val2 (abuildSlice T t n l H)
    | none => none
  | .load t a => match aeval tm a with
    | some v => val (aload T t v H) H
    | none => none
  | .store t a x => match aeval tm a, aeval tm x with
    | some v, some u => skp (astore T t v u H)
    | _, _ => none
  | .nilCheck x => match aeval tm x with
    | some (.pointer (some a)) => some (.val (.pointer (some a)), H)
    | some (.func (.func f) g c) => some (.val (.func (.func f) g c), H)
    | _ => none
  | .binOp op t x y _ => match aeval tm x, aeval tm y with
    | some u, some v => val (orVal (abin T op t u v) (fallback P tm o)) H
    | _, _ => none
  | .unOp .not _ x => match aeval tm x with
    | some (.bool b) => some (.val (.bool !b), H)
    | _ => none
  | .convert s d x => match aeval tm x with
    | some v => val (orVal (aconvert T s d v H) (fallback P tm o)) H
    | none => none
  | .makeFunc fn fs cs => match aevals tm fs.toList, aevals tm cs.toList with
    | some l, some k => some (.val (.func fn l.toArray k.toArray), H)
    | _, _ => none
  | .makeInterface t x => match aeval tm x, T.under t with
    | some _, some (.interface _) => none
    | some v, some _ => some (.val (.iface t v), H)
    | _, _ => none
  | .makeSlice t l c => match aeval tm l, aeval tm c with
    | some u, some v => val2 (amakeSlice T t u v H)
    | _, _ => none
  | .slice t x lo hi mx => match aeval tm x, aevalo tm lo, aevalo tm hi, aevalo tm mx with
    | some v, some l, some h, some m => val (orVal (aslice T t v l h m) (fallback P tm o)) H
    | _, _, _, _ => none
  | .fieldAddr s x f => match aeval tm x with
    | some v => val (afield T s v f) H
    | none => none
  | .field t x f => match aeval tm x, T.under t with
    | some (.agg cs), some (.struct fields) => match fields[f]? with
      | some fd => val (apart T fd.type cs fd.offset) H
      | none => none
    | _, _ => none
  | .indexAddr t x ix => match aeval tm x, aeval tm ix with
    | some u, some v => val (aindexAddr T t u v) H
    | _, _ => none
  | .index t x ix => match aeval tm x, aeval tm ix with
    | some u, some v => val (orVal (aindex T t u v) (fallback P tm o)) H
    | _, _ => none
  | .extract x i => match aeval tm x with
    | some (.tuple vs) => val vs[i]? H
    | _ => none
  | .call c => acall P T tm o c H
  | .unOp .. => val (fallback P tm o) H
  | _ => amap P T tm o H
/-- Is an operation one that reads what lies in memory, or one that may write it? -/
inductive Cls where
  | free | look | act
  deriving DecidableEq
def cls : Op → Cls
  | .load .. => .look
  | .store .. => .act
  | .makeMap .. | .lookup .. | .mapUpdate .. | .mapEntry .. | .entryStore .. | .range .. | .next .. | .entry .. => .act
  | .call c => match c.callee with
    | .value _ | .invoke _ _ | .builtin .append | .builtin .copy | .builtin .delete | .builtin .clear => .act
    | .builtin .len => (match c.argTypes.toList with | [t] => (match T.under t with | some (.map _ _) => .act | _ => .free) | _ => .free)
    | _ => .free
  | .convert s _ _ => match T.under s with
    | some (.slice _) => .look
    | _ => .free
  | _ => .free
def awanted (ops : Array Oper) (tm : Tr Value) (o : Oper) : Bool :=
  match o.guard with
  | none => true
  | some (j, want) => match (ops[j]?).bind (·.dst) with
    | some d => match tm.get d with
      | some (.bool b) => b == want
      | _ => false
    | none => false
structure St where
  tm : Tr Value
  H : Heap
variable (n : Nat) (callf : FuncId → Array Value → Heap → Option (Value × Heap))
def dput (tm : Tr Value) (dst : Option Tmp) (v : Value) : Option (Tr Value) :=
  match dst with
  | none => some tm
  | some d => bif d.blt n then some (tm.put d (some v)) else none
def fin (dst : Option Tmp) (tm : Tr Value) (v : Value) (H : Heap) : Option St :=
  match dput n tm dst v with
  | some tm' => some ⟨tm', H⟩
  | none => none
def step1 (ops : Array Oper) (o : Oper) (s : St) : Option St :=
  bif awanted ops s.tm o then
    match aop P T s.tm o s.H with
    | some (.val v, H) => fin n o.dst s.tm v H
    | some (.skip, H) => fin n o.dst s.tm undef H
    | some (.enter f args, H) => match callf f args H with
      | some (v, H') => fin n o.dst s.tm v H'
      | none => none
    | none => none
  else fin n o.dst s.tm undef s.H
def evOps (ops : Array Oper) : List Oper → St → Option St
  | [], s => some s
  | o :: r, s => match step1 P T n callf ops o s with
    | some s' => evOps ops r s'
    | none => none
/-- The states ahead of each operation, and the last. -/
def evTrace (ops : Array Oper) : List Oper → St → Option (List St)
  | [], s => some [s]
  | o :: r, s => match step1 P T n callf ops o s with
    | some s' => match evTrace ops r s' with
      | some l => some (s :: l)
      | none => none
    | none => none
/-- Are two values that are data the same? -/
def veq0 : Value → Value → Bool
  | .bool a, .bool b => a == b
  | .int j a, .int k b => j == k && a == b
  | .string a, .string b => a.data.toList == b.data.toList
  | .pointer none, .pointer none => true
  | .pointer (some a), .pointer (some b) => a == b
  | .slice none l c, .slice none l' c' => l.beq l' && c.beq c'
  | .slice (some a) l c, .slice (some b) l' c' => a == b && l.beq l' && c.beq c'
  | .map none, .map none => true
  | .map (some a), .map (some b) => a.beq b
  | .nilFunc, .nilFunc => true
  | .nilIface, .nilIface => true
  | _, _ => false
def veqs : List Value → List Value → Bool
  | [], [] => true
  | x :: a, y :: b => veq0 x y && veqs a b
  | _, _ => false
def veq : Value → Value → Bool
  | .agg a, .agg b => veqs a.toList b.toList
  | x, y => veq0 x y
/-- The pairs of a load and an operation that may write, neither of which must come ahead of the other. -/
def loose (ops : Array Oper) : List (Nat × Nat) :=
  let b := Region.before ops
  (List.range ops.size).flatMap fun i => (List.range ops.size).filterMap fun j =>
    match (ops[i]?).map (cls T ·.op), (ops[j]?).map (cls T ·.op) with
    | some .look, some .act => bif i.blt j then (bif (b.getD j 0).testBit i then none else some (i, j)) else (bif (b.getD i 0).testBit j then none else some (i, j))
    | _, _ => none
/-- Where an operation that reads memory looks; what it reads. -/
def lookArg : Op → Option Operand
  | .load _ a => some a
  | .convert _ _ a => some a
  | _ => none
def alook (o : Op) (v : Value) (H : Heap) : Option Value :=
  match o with
  | .load t _ => aload T t v H
  | .convert s d _ => aconvert T s d v H
  | _ => none
/-- A load reads the same ahead of another operation and behind it. -/
def steady (ops : Array Oper) (l : List St) (p : Nat × Nat) : Bool :=
  match l[p.1]?, ops[p.1]? with
  | some s, some o =>
    bif awanted ops s.tm o then
      match lookArg o.op with
      | some a => match aeval s.tm a with
        | some v => match alook T o.op v s.H, l[p.2]?, l[p.2 + 1]? with
          | some u, some s1, some s2 => match alook T o.op v s1.H, alook T o.op v s2.H with
            | some u1, some u2 => veq u1 u && veq u2 u
            | _, _ => false
          | _, _, _ => false
        | none => false
      | none => false
    else true
  | _, _ => false
def evRegion (ops : Array Oper) (draw : Bool) (s : St) : Option St :=
  bif draw then
    match loose T ops with
    | [] => evOps P T n callf ops ops.toList s
    | ps => match evTrace P T n callf ops ops.toList s with
      | some l => bif ps.all (steady T ops l) then l.getLast? else none
      | none => none
  else evOps P T n callf ops ops.toList s
end
inductive Xt where
  | normal | ret | exit (id : Nat)
section
variable (P : Program) (T : Tab)
def initTm : Nat → Array Value → Tr Value
  | _, a => go a.toList 0 .lf
where go : List Value → Nat → Tr Value → Tr Value
  | [], _, t => t
  | v :: r, k, t => go r (k + 1) (t.put k (some v))
def results1 (tm : Tr Value) (H : Heap) : List ResultVar → Option (List Value)
  | [] => some []
  | .tmp t :: r => match results1 tm H r with
    | some l => some (((tm.get t).getD undef) :: l)
    | none => none
  | .cell a t :: r => match aload T t ((tm.get a).getD undef) H, results1 tm H r with
    | some v, some l => some (v :: l)
    | _, _ => none
def aresults (tm : Tr Value) (H : Heap) (rs : Array ResultVar) : Option Value :=
  match results1 T tm H rs.toList with
  | some [v] => some v
  | some l => some (.tuple l.toArray)
  | none => none
def evCode : Nat → Nat → Code → St → Option (Xt × St)
  | 0, _, _, _ => none
  | k + 1, n, .skip, s => some (.normal, s)
  | k + 1, n, .label _, s => some (.normal, s)
  | k + 1, n, .ret, s => some (.ret, s)
  | k + 1, n, .exit i, s => some (.exit i, s)
  | k + 1, n, .region _ ops draw, s =>
    match evRegion P T n (fun f args H => match T.orc f args.toList with
      | some v => some (v, H)
      | none => match T.fn f with
      | some fn => match fn.body with
        | some c => match evCode k (args.size + (fn.ntmps - args.size)) c ⟨initTm 0 args, H⟩ with
          | some (.normal, s') => (match aresults T s'.tm s'.H fn.results with | some v => some (v, s'.H) | none => none)
          | some (.ret, s') => (match aresults T s'.tm s'.H fn.results with | some v => some (v, s'.H) | none => none)
          | _ => none
        | none => none
      | none => match T.mor f args.toList H with
        | some v => some (v, H)
        | none => none) ops draw s with
    | some s' => some (.normal, s')
    | none => none
  | k + 1, n, .seq a b, s => match evCode k n a s with
    | some (.normal, s') => evCode k n b s'
    | r => r
  | k + 1, n, .cond c a b, s => match aeval s.tm c with
    | some (.bool t) => evCode k n (bif t then a else b) s
    | _ => none
  | k + 1, n, .block id c, s => match evCode k n c s with
    | some (.exit i, s') => bif i.beq id then some (.normal, s') else some (.exit i, s')
    | r => r
  | k + 1, n, .loop c, s => match evCode k n c s with
    | some (.normal, s') => evCode k n (.loop c) s'
    | r => r
  | k + 1, n, .scope c, s => evCode k n c s
  | _, _, _, _ => none
def evBody (k : Nat) (f : FuncId) (args : Array Value) (H : Heap) : Option (Value × Heap) :=
  match T.fn f with
  | some fn => match fn.body with
    | some c => match evCode P T k (args.size + (fn.ntmps - args.size)) c ⟨initTm 0 args, H⟩ with
      | some (.normal, s') => (match aresults T s'.tm s'.H fn.results with | some v => some (v, s'.H) | none => none)
      | some (.ret, s') => (match aresults T s'.tm s'.H fn.results with | some v => some (v, s'.H) | none => none)
      | _ => none
    | none => none
  | none => match T.mor f args.toList H with
    | some v => some (v, H)
    | none => none
def evCall (k : Nat) (f : FuncId) (args : Array Value) (H : Heap) : Option (Value × Heap) :=
  match T.orc f args.toList with
  | some v => some (v, H)
  | none => evBody P T k f args H
end
end Go.Ev
